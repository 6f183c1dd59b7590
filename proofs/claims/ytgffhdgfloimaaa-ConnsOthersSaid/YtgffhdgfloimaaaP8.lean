-- Written by a program of this session (wip/mkprint.py). Not trusted: Lean checks it.
import Derived.Test.YtgffhdgfloimaaaP0
import Derived.Test.YtgffhdgfloimaaaP2
import Derived.Test.YtgffhdgfloimaaaP3
import Derived.Test.YtgffhdgfloimaaaP4
import Derived.Test.YtgffhdgfloimaaaP6
import Derived.Test.YtgffhdgfloimaaaP7
namespace Go.Proofs.Ytgffhdgfloimaaa.P
open Go.RowKit Go.Proofs.YtgffhdgfloimaaaW.PrintWords Go.Proofs.YtgffhdgfloimaaaW.PrintLast Go.Proofs.YtgffhdgfloimaaaW.PrintMore
attribute [local go_sem] max2_int min2_int max_two min_two max_three min_three max_four min_four   -- for this text's walks alone
set_option linter.unusedVariables false
set_option linter.unusedSimpArgs false

attribute [local go_sem high] eqA34
/-! ### law22_ConnsOthers: function 4 -/
mutual
def law22_ConnsOthers.j0 : Nat → List (S34) → Int → ByteArray → Bool → Option (Bool)
  | 0, _, _, _, _ => none
  | k + 1, x0, x1, x2, x26 => if x26 = true then ((law22_awake.f k).bind fun t217 => (some t217)) else ((conns_Push.f k x0 x1 x2).bind fun bt218 => ((conns_Close.f x0 x1).bind fun t224 => ((conns_Accept.f k x0 7).bind fun bt227 => (if (bt218.1.length : Int) = (x0.length : Int) then (if (t224.length : Int) = (x0.length : Int) then (law22_ConnsOthers.j1 k x0 x1 bt218.1 t224 bt227.1 bt227.2.1 bt227.2.2 ((bt227.1.length : Int) != (x0.length : Int))) else (law22_ConnsOthers.j1 k x0 x1 bt218.1 t224 bt227.1 bt227.2.1 bt227.2.2 true)) else (law22_ConnsOthers.j1 k x0 x1 bt218.1 t224 bt227.1 bt227.2.1 bt227.2.2 true)))))
def law22_ConnsOthers.j1 : Nat → List (S34) → Int → List (S34) → List (S34) → List (S34) → Int → Bool → Bool → Option (Bool)
  | 0, _, _, _, _, _, _, _, _ => none
  | k + 1, x0, x1, x7, x9, x10, x11, x12, x62 => if x62 = true then (none) else (law22_ConnsOthers.l0 k x0 x1 x7 x9 x10 x11 x12 0)
def law22_ConnsOthers.l0 : Nat → List (S34) → Int → List (S34) → List (S34) → List (S34) → Int → Bool → Int → Option (Bool)
  | 0, _, _, _, _, _, _, _, _ => none
  | k + 1, x0, x1, x7, x9, x10, x11, x12, x13 => if x13 < (x0.length : Int) then (if x13 = x1 then (if x12 = true then (if x13 = x11 then (law22_ConnsOthers.l0 k x0 x1 x7 x9 x10 x11 x12 (wrap64 (x13 + 1))) else (if 0 ≤ x13 then (if x13 < (x10.length : Int) then (if (!(((rd_T34 x10 x13).f0) == ((rd_T34 x0 x13).f0)) || (!(((rd_T34 x10 x13).f1) == ((rd_T34 x0 x13).f1)) || (!(((rd_T34 x10 x13).f2) == ((rd_T34 x0 x13).f2)) || ((!((((rd_T34 x10 x13).f3.f0).toList) == (((rd_T34 x0 x13).f3.f0).toList)) || (!(((rd_T34 x10 x13).f3.f1) == ((rd_T34 x0 x13).f3.f1)))))))) = true then (none) else (law22_ConnsOthers.l0 k x0 x1 x7 x9 x10 x11 x12 (wrap64 (x13 + 1)))) else (none)) else (none))) else (if 0 ≤ x13 then (if x13 < (x10.length : Int) then (if (!(((rd_T34 x10 x13).f0) == ((rd_T34 x0 x13).f0)) || (!(((rd_T34 x10 x13).f1) == ((rd_T34 x0 x13).f1)) || (!(((rd_T34 x10 x13).f2) == ((rd_T34 x0 x13).f2)) || ((!((((rd_T34 x10 x13).f3.f0).toList) == (((rd_T34 x0 x13).f3.f0).toList)) || (!(((rd_T34 x10 x13).f3.f1) == ((rd_T34 x0 x13).f3.f1)))))))) = true then (none) else (law22_ConnsOthers.l0 k x0 x1 x7 x9 x10 x11 x12 (wrap64 (x13 + 1)))) else (none)) else (none))) else (if 0 ≤ x13 then (if x13 < (x7.length : Int) then (if (!(((rd_T34 x7 x13).f0) == ((rd_T34 x0 x13).f0)) || (!(((rd_T34 x7 x13).f1) == ((rd_T34 x0 x13).f1)) || (!(((rd_T34 x7 x13).f2) == ((rd_T34 x0 x13).f2)) || ((!((((rd_T34 x7 x13).f3.f0).toList) == (((rd_T34 x0 x13).f3.f0).toList)) || (!(((rd_T34 x7 x13).f3.f1) == ((rd_T34 x0 x13).f3.f1)))))))) = true then (none) else (if x13 < (x9.length : Int) then (if (!(((rd_T34 x9 x13).f0) == ((rd_T34 x0 x13).f0)) || (!(((rd_T34 x9 x13).f1) == ((rd_T34 x0 x13).f1)) || (!(((rd_T34 x9 x13).f2) == ((rd_T34 x0 x13).f2)) || ((!((((rd_T34 x9 x13).f3.f0).toList) == (((rd_T34 x0 x13).f3.f0).toList)) || (!(((rd_T34 x9 x13).f3.f1) == ((rd_T34 x0 x13).f3.f1)))))))) = true then (none) else (if x12 = true then (if x13 = x11 then (law22_ConnsOthers.l0 k x0 x1 x7 x9 x10 x11 x12 (wrap64 (x13 + 1))) else (if x13 < (x10.length : Int) then (if (!(((rd_T34 x10 x13).f0) == ((rd_T34 x0 x13).f0)) || (!(((rd_T34 x10 x13).f1) == ((rd_T34 x0 x13).f1)) || (!(((rd_T34 x10 x13).f2) == ((rd_T34 x0 x13).f2)) || ((!((((rd_T34 x10 x13).f3.f0).toList) == (((rd_T34 x0 x13).f3.f0).toList)) || (!(((rd_T34 x10 x13).f3.f1) == ((rd_T34 x0 x13).f3.f1)))))))) = true then (none) else (law22_ConnsOthers.l0 k x0 x1 x7 x9 x10 x11 x12 (wrap64 (x13 + 1)))) else (none))) else (if x13 < (x10.length : Int) then (if (!(((rd_T34 x10 x13).f0) == ((rd_T34 x0 x13).f0)) || (!(((rd_T34 x10 x13).f1) == ((rd_T34 x0 x13).f1)) || (!(((rd_T34 x10 x13).f2) == ((rd_T34 x0 x13).f2)) || ((!((((rd_T34 x10 x13).f3.f0).toList) == (((rd_T34 x0 x13).f3.f0).toList)) || (!(((rd_T34 x10 x13).f3.f1) == ((rd_T34 x0 x13).f3.f1)))))))) = true then (none) else (law22_ConnsOthers.l0 k x0 x1 x7 x9 x10 x11 x12 (wrap64 (x13 + 1)))) else (none)))) else (none))) else (none)) else (none))) else ((law22_awake.f k).bind fun t244 => (if t244 = true then ((conns_Right.f k x7).bind fun t245 => (if t245 = true then ((conns_Right.f k x9).bind fun t246 => (if t246 = true then ((conns_Right.f k x10).bind fun t247 => (some t247)) else (none))) else (none))) else (none)))
end
def law22_ConnsOthers.f (k : Nat) (l0 : List (S34)) (a1 : Int) (a2 : ByteArray) : Option (Bool) := (law22_few.f k l0).bind fun t215 => (if t215 = true then (if (a2.size : Int) > 1000 then (law22_ConnsOthers.j0 k l0 a1 a2 true) else ((ref22_Right.f k l0).bind fun t216 => (law22_ConnsOthers.j0 k l0 a1 a2 (!t216)))) else (law22_ConnsOthers.j0 k l0 a1 a2 true))
theorem law22_ConnsOthers.mono_l : ∀ k, (∀ y0 y1 y2 y3, LeO (law22_ConnsOthers.j0 k y0 y1 y2 y3) (law22_ConnsOthers.j0 (k + 1) y0 y1 y2 y3)) ∧ (∀ y0 y1 y2 y3 y4 y5 y6 y7, LeO (law22_ConnsOthers.j1 k y0 y1 y2 y3 y4 y5 y6 y7) (law22_ConnsOthers.j1 (k + 1) y0 y1 y2 y3 y4 y5 y6 y7)) ∧ (∀ y0 y1 y2 y3 y4 y5 y6 y7, LeO (law22_ConnsOthers.l0 k y0 y1 y2 y3 y4 y5 y6 y7) (law22_ConnsOthers.l0 (k + 1) y0 y1 y2 y3 y4 y5 y6 y7))
  | 0 => ⟨fun _ _ _ _ r h => by simp [law22_ConnsOthers.j0] at h, fun _ _ _ _ _ _ _ _ r h => by simp [law22_ConnsOthers.j1] at h, fun _ _ _ _ _ _ _ _ r h => by simp [law22_ConnsOthers.l0] at h⟩
  | k + 1 => by
    obtain ⟨ih0, ih1, ih2⟩ := law22_ConnsOthers.mono_l k
    refine ⟨?_, ?_, ?_⟩
    · intro y0 y1 y2 y3
      unfold law22_ConnsOthers.j0
      repeat' first
      | (with_reducible exact ih0 _ _ _ _)
      | (with_reducible exact ih1 _ _ _ _ _ _ _ _)
      | (with_reducible exact ih2 _ _ _ _ _ _ _ _)
      | (with_reducible exact conns_Accept.mono _ _ _)
      | (with_reducible exact conns_Push.mono _ _ _ _)
      | (with_reducible exact conns_Right.mono _ _)
      | (with_reducible exact law22_awake.mono _)
      | (with_reducible exact law22_few.mono _ _)
      | (with_reducible exact ref22_Right.mono _ _)
      | (with_reducible exact LeO.refl _)
      | (with_reducible exact LeO.none _)
      | (with_reducible refine LeO.ite ?_ ?_)
      | (with_reducible refine LeO.bind ?_ (fun _ => ?_))
      | exact ih0 _ _ _ _
      | exact ih1 _ _ _ _ _ _ _ _
      | exact ih2 _ _ _ _ _ _ _ _
      | exact conns_Accept.mono _ _ _
      | exact conns_Push.mono _ _ _ _
      | exact conns_Right.mono _ _
      | exact law22_awake.mono _
      | exact law22_few.mono _ _
      | exact ref22_Right.mono _ _
      | exact LeO.none _
      | refine LeO.ite ?_ ?_
      | refine LeO.bind ?_ (fun _ => ?_)
    · intro y0 y1 y2 y3 y4 y5 y6 y7
      unfold law22_ConnsOthers.j1
      repeat' first
      | (with_reducible exact ih0 _ _ _ _)
      | (with_reducible exact ih1 _ _ _ _ _ _ _ _)
      | (with_reducible exact ih2 _ _ _ _ _ _ _ _)
      | (with_reducible exact conns_Accept.mono _ _ _)
      | (with_reducible exact conns_Push.mono _ _ _ _)
      | (with_reducible exact conns_Right.mono _ _)
      | (with_reducible exact law22_awake.mono _)
      | (with_reducible exact law22_few.mono _ _)
      | (with_reducible exact ref22_Right.mono _ _)
      | (with_reducible exact LeO.refl _)
      | (with_reducible exact LeO.none _)
      | (with_reducible refine LeO.ite ?_ ?_)
      | (with_reducible refine LeO.bind ?_ (fun _ => ?_))
      | exact ih0 _ _ _ _
      | exact ih1 _ _ _ _ _ _ _ _
      | exact ih2 _ _ _ _ _ _ _ _
      | exact conns_Accept.mono _ _ _
      | exact conns_Push.mono _ _ _ _
      | exact conns_Right.mono _ _
      | exact law22_awake.mono _
      | exact law22_few.mono _ _
      | exact ref22_Right.mono _ _
      | exact LeO.none _
      | refine LeO.ite ?_ ?_
      | refine LeO.bind ?_ (fun _ => ?_)
    · intro y0 y1 y2 y3 y4 y5 y6 y7
      unfold law22_ConnsOthers.l0
      repeat' first
      | (with_reducible exact ih0 _ _ _ _)
      | (with_reducible exact ih1 _ _ _ _ _ _ _ _)
      | (with_reducible exact ih2 _ _ _ _ _ _ _ _)
      | (with_reducible exact conns_Accept.mono _ _ _)
      | (with_reducible exact conns_Push.mono _ _ _ _)
      | (with_reducible exact conns_Right.mono _ _)
      | (with_reducible exact law22_awake.mono _)
      | (with_reducible exact law22_few.mono _ _)
      | (with_reducible exact ref22_Right.mono _ _)
      | (with_reducible exact LeO.refl _)
      | (with_reducible exact LeO.none _)
      | (with_reducible refine LeO.ite ?_ ?_)
      | (with_reducible refine LeO.bind ?_ (fun _ => ?_))
      | exact ih0 _ _ _ _
      | exact ih1 _ _ _ _ _ _ _ _
      | exact ih2 _ _ _ _ _ _ _ _
      | exact conns_Accept.mono _ _ _
      | exact conns_Push.mono _ _ _ _
      | exact conns_Right.mono _ _
      | exact law22_awake.mono _
      | exact law22_few.mono _ _
      | exact ref22_Right.mono _ _
      | exact LeO.none _
      | refine LeO.ite ?_ ?_
      | refine LeO.bind ?_ (fun _ => ?_)
theorem law22_ConnsOthers.mono : ∀ a0 a1 a2 k, LeO (law22_ConnsOthers.f k a0 a1 a2) (law22_ConnsOthers.f (k + 1) a0 a1 a2) := by
  intro a0 a1 a2 k
  obtain ⟨ih0, ih1, ih2⟩ := law22_ConnsOthers.mono_l k
  unfold law22_ConnsOthers.f
  repeat' first
      | (with_reducible exact ih0 _ _ _ _)
      | (with_reducible exact ih1 _ _ _ _ _ _ _ _)
      | (with_reducible exact ih2 _ _ _ _ _ _ _ _)
      | (with_reducible exact conns_Accept.mono _ _ _)
      | (with_reducible exact conns_Push.mono _ _ _ _)
      | (with_reducible exact conns_Right.mono _ _)
      | (with_reducible exact law22_awake.mono _)
      | (with_reducible exact law22_few.mono _ _)
      | (with_reducible exact ref22_Right.mono _ _)
      | (with_reducible exact LeO.refl _)
      | (with_reducible exact LeO.none _)
      | (with_reducible refine LeO.ite ?_ ?_)
      | (with_reducible refine LeO.bind ?_ (fun _ => ?_))
      | exact ih0 _ _ _ _
      | exact ih1 _ _ _ _ _ _ _ _
      | exact ih2 _ _ _ _ _ _ _ _
      | exact conns_Accept.mono _ _ _
      | exact conns_Push.mono _ _ _ _
      | exact conns_Right.mono _ _
      | exact law22_awake.mono _
      | exact law22_few.mono _ _
      | exact ref22_Right.mono _ _
      | exact LeO.none _
      | refine LeO.ite ?_ ?_
      | refine LeO.bind ?_ (fun _ => ?_)
set_option maxHeartbeats 8000000 in
set_option maxRecDepth 100000 in
theorem law22_ConnsOthers.calls (k : Nat) (A0 : Option Addr) (c0 : Nat) (l0 : List (S34)) (a1 : Int) (a2 : ByteArray) (r : Bool) (w : World) (hr0 : Kd.C k34 w A0 l0.length l0) (hc0 : l0.length ≤ c0) (h : law22_ConnsOthers.f k l0 a1 a2 = some r) :
    Calls Try.prog 4 #[.slice A0 l0.length c0, .int .i64 a1, .string a2] w fun e w' => e = .returned (.bool r) ∧ Below w.heap.size w w' := by
  have hu34 := Try.underlying34
  have HR0 := Aside0.mk hr0
  have HC0 := Aside0.mk hc0
  clear hr0 hc0
  have HB := Aside0.mk (Below.refl w.heap.size w)
  have H : ((law22_few.f k l0).bind fun t215 => (if t215 = true then (if (a2.size : Int) > 1000 then (law22_ConnsOthers.j0 k l0 a1 a2 true) else ((ref22_Right.f k l0).bind fun t216 => (law22_ConnsOthers.j0 k l0 a1 a2 (!t216)))) else (law22_ConnsOthers.j0 k l0 a1 a2 true))) = some r := h
  clear h
  have HC4 := Aside0.mk H
  clear H
  go_enter Try.func4, Try.ntmps4
  go_upto_region 1 with (fail)
  repeat (go_quiet (fail); go_upto_region 1 with (fail))
  go_cut [26] (fun v26 wc => ∃ (kq : Nat) (x26_3 : Bool), v26 = .bool x26_3 ∧ Aside0 (law22_ConnsOthers.j0 kq l0 a1 a2 x26_3 = some r) ∧ Aside0 (kq ≤ k) ∧ Aside0 (Below w.heap.size w wc))
  case first =>
    have H := HC4.out
    clear HC4
    replace H := Option.bind_eq_some_iff.mp H
    obtain ⟨t215, A50, H⟩ := H
    replace H : (if t215 = true then (if (a2.size : Int) > 1000 then (law22_ConnsOthers.j0 k l0 a1 a2 true) else ((ref22_Right.f k l0).bind fun t216 => (law22_ConnsOthers.j0 k l0 a1 a2 (!t216)))) else (law22_ConnsOthers.j0 k l0 a1 a2 true)) = some r := H
    have A5 := Aside0.mk A50
    clear A50
    by_cases c6 : t215 = true
    · subst c6
      have H1 : (if (a2.size : Int) > 1000 then (law22_ConnsOthers.j0 k l0 a1 a2 true) else ((ref22_Right.f k l0).bind fun t216 => (law22_ConnsOthers.j0 k l0 a1 a2 (!t216)))) = some r := by rw [if_pos rfl] at H; exact H
      clear H
      have H := H1
      clear H1
      by_cases c7 : (a2.size : Int) > 1000
      · rw [if_pos c7] at H
        have c7b0 : decide (1000 < (a2.size : Int)) = true := decide_eq_true c7
        have c7b1 : decide (1000 < a2.size) = true := decide_eq_true (by omega)
        clear c7
        (first | rw [c7b0] | (simp only [i64_w, i32_w]; rw [c7b0]) | skip)
        have H' := Aside0.mk H
        clear H
        go_wp2_with (first | (go_at_call 11; (with_reducible refine (law22_few.calls k _ _ l0 true _ ?side1 ?side2 A5.out).mono ?_); (case side1 => repeat (first | exact (Kd.C_below HR0.out HB.out) | (with_reducible refine Kd.C_alloc ?_ _) | (with_reducible refine Kd.C_drewN ?_ _) | (with_reducible refine Kd.C_drew ?_))); (case side2 => exact HC0.out); rintro e w' ⟨rfl, ⟨nd, rfl⟩⟩; (try first | exact ⟨rfl, _, World.drewN_drewN _ _ _⟩ | exact ⟨rfl, _, Eq.trans (World.drewN_drewN _ _ _) (congrArg (World.drewN _) (Nat.add_assoc _ _ _))⟩)))
        repeat (go_quiet (first | (go_at_call 11; (with_reducible refine (law22_few.calls k _ _ l0 true _ ?side1 ?side2 A5.out).mono ?_); (case side1 => repeat (first | exact (Kd.C_below HR0.out HB.out) | (with_reducible refine Kd.C_alloc ?_ _) | (with_reducible refine Kd.C_drewN ?_ _) | (with_reducible refine Kd.C_drew ?_))); (case side2 => exact HC0.out); rintro e w' ⟨rfl, ⟨nd, rfl⟩⟩; (try first | exact ⟨rfl, _, World.drewN_drewN _ _ _⟩ | exact ⟨rfl, _, Eq.trans (World.drewN_drewN _ _ _) (congrArg (World.drewN _) (Nat.add_assoc _ _ _))⟩))); try go_wp2_with (first | (go_at_call 11; (with_reducible refine (law22_few.calls k _ _ l0 true _ ?side1 ?side2 A5.out).mono ?_); (case side1 => repeat (first | exact (Kd.C_below HR0.out HB.out) | (with_reducible refine Kd.C_alloc ?_ _) | (with_reducible refine Kd.C_drewN ?_ _) | (with_reducible refine Kd.C_drew ?_))); (case side2 => exact HC0.out); rintro e w' ⟨rfl, ⟨nd, rfl⟩⟩; (try first | exact ⟨rfl, _, World.drewN_drewN _ _ _⟩ | exact ⟨rfl, _, Eq.trans (World.drewN_drewN _ _ _) (congrArg (World.drewN _) (Nat.add_assoc _ _ _))⟩))))
        go_meet
        case rel => exact ⟨_, (true), (by first | rfl | (simp; done) | (simp [*]; done) | (simp [bne_nil_]; done)), H', ⟨by first | omega | exact Nat.le_refl _⟩, ⟨by repeat (first | (with_reducible first | exact HB.out | apply below_alloc | apply pw_below_drewN | apply below_drew1) | exact HB.out)⟩⟩
      · rw [if_neg c7] at H
        have c7b0 : decide (1000 < (a2.size : Int)) = false := decide_eq_false c7
        have c7b1 : decide (1000 < a2.size) = false := decide_eq_false (by omega)
        clear c7
        (first | rw [c7b0] | (simp only [i64_w, i32_w]; rw [c7b0]) | skip)
        replace H := Option.bind_eq_some_iff.mp H
        obtain ⟨t216, A80, H⟩ := H
        replace H : (law22_ConnsOthers.j0 k l0 a1 a2 (!t216)) = some r := H
        have A8 := Aside0.mk A80
        clear A80
        have H' := Aside0.mk H
        clear H
        go_wp2_with (first | (go_at_call 11; (with_reducible refine (law22_few.calls k _ _ l0 true _ ?side1 ?side2 A5.out).mono ?_); (case side1 => repeat (first | exact (Kd.C_below HR0.out HB.out) | (with_reducible refine Kd.C_alloc ?_ _) | (with_reducible refine Kd.C_drewN ?_ _) | (with_reducible refine Kd.C_drew ?_))); (case side2 => exact HC0.out); rintro e w' ⟨rfl, ⟨nd, rfl⟩⟩; (try first | exact ⟨rfl, _, World.drewN_drewN _ _ _⟩ | exact ⟨rfl, _, Eq.trans (World.drewN_drewN _ _ _) (congrArg (World.drewN _) (Nat.add_assoc _ _ _))⟩)) | (go_at_call 12; (with_reducible refine (ref22_Right.calls k _ _ l0 t216 _ ?side1 ?side2 A8.out).mono ?_); (case side1 => repeat (first | exact (Kd.C_below HR0.out (by repeat (first | (with_reducible first | exact HB.out | apply below_alloc | apply pw_below_drewN | apply below_drew1) | exact HB.out))) | (with_reducible refine Kd.C_alloc ?_ _) | (with_reducible refine Kd.C_drewN ?_ _) | (with_reducible refine Kd.C_drew ?_))); (case side2 => exact HC0.out); rintro e w9 ⟨rfl, hb⟩; have n0_ := Aside0.mk (below_step (by repeat (first | (with_reducible first | exact HB.out | apply below_alloc | apply pw_below_drewN | apply below_drew1) | exact HB.out)) hb); clear HB; have HB := n0_; clear n0_; (try clear hb); (try clear hb2); (try clear hk); (try clear hi)))
        repeat (go_quiet (first | (go_at_call 11; (with_reducible refine (law22_few.calls k _ _ l0 true _ ?side1 ?side2 A5.out).mono ?_); (case side1 => repeat (first | exact (Kd.C_below HR0.out HB.out) | (with_reducible refine Kd.C_alloc ?_ _) | (with_reducible refine Kd.C_drewN ?_ _) | (with_reducible refine Kd.C_drew ?_))); (case side2 => exact HC0.out); rintro e w' ⟨rfl, ⟨nd, rfl⟩⟩; (try first | exact ⟨rfl, _, World.drewN_drewN _ _ _⟩ | exact ⟨rfl, _, Eq.trans (World.drewN_drewN _ _ _) (congrArg (World.drewN _) (Nat.add_assoc _ _ _))⟩)) | (go_at_call 12; (with_reducible refine (ref22_Right.calls k _ _ l0 t216 _ ?side1 ?side2 A8.out).mono ?_); (case side1 => repeat (first | exact (Kd.C_below HR0.out (by repeat (first | (with_reducible first | exact HB.out | apply below_alloc | apply pw_below_drewN | apply below_drew1) | exact HB.out))) | (with_reducible refine Kd.C_alloc ?_ _) | (with_reducible refine Kd.C_drewN ?_ _) | (with_reducible refine Kd.C_drew ?_))); (case side2 => exact HC0.out); rintro e w9 ⟨rfl, hb⟩; have n0_ := Aside0.mk (below_step (by repeat (first | (with_reducible first | exact HB.out | apply below_alloc | apply pw_below_drewN | apply below_drew1) | exact HB.out)) hb); clear HB; have HB := n0_; clear n0_; (try clear hb); (try clear hb2); (try clear hk); (try clear hi))); try go_wp2_with (first | (go_at_call 11; (with_reducible refine (law22_few.calls k _ _ l0 true _ ?side1 ?side2 A5.out).mono ?_); (case side1 => repeat (first | exact (Kd.C_below HR0.out HB.out) | (with_reducible refine Kd.C_alloc ?_ _) | (with_reducible refine Kd.C_drewN ?_ _) | (with_reducible refine Kd.C_drew ?_))); (case side2 => exact HC0.out); rintro e w' ⟨rfl, ⟨nd, rfl⟩⟩; (try first | exact ⟨rfl, _, World.drewN_drewN _ _ _⟩ | exact ⟨rfl, _, Eq.trans (World.drewN_drewN _ _ _) (congrArg (World.drewN _) (Nat.add_assoc _ _ _))⟩)) | (go_at_call 12; (with_reducible refine (ref22_Right.calls k _ _ l0 t216 _ ?side1 ?side2 A8.out).mono ?_); (case side1 => repeat (first | exact (Kd.C_below HR0.out (by repeat (first | (with_reducible first | exact HB.out | apply below_alloc | apply pw_below_drewN | apply below_drew1) | exact HB.out))) | (with_reducible refine Kd.C_alloc ?_ _) | (with_reducible refine Kd.C_drewN ?_ _) | (with_reducible refine Kd.C_drew ?_))); (case side2 => exact HC0.out); rintro e w9 ⟨rfl, hb⟩; have n0_ := Aside0.mk (below_step (by repeat (first | (with_reducible first | exact HB.out | apply below_alloc | apply pw_below_drewN | apply below_drew1) | exact HB.out)) hb); clear HB; have HB := n0_; clear n0_; (try clear hb); (try clear hb2); (try clear hk); (try clear hi))))
        go_meet
        case rel => exact ⟨_, (!t216), (by first | rfl | (simp; done) | (simp [*]; done) | (simp [bne_nil_]; done)), H', ⟨by first | omega | exact Nat.le_refl _⟩, ⟨by repeat (first | (with_reducible first | exact HB.out | apply below_alloc | apply pw_below_drewN | apply below_drew1) | exact HB.out)⟩⟩
    · replace c6 := Bool.eq_false_iff.mpr c6
      subst c6
      have H1 : (law22_ConnsOthers.j0 k l0 a1 a2 true) = some r := by rw [if_neg (show ¬ (false = true) by decide)] at H; exact H
      clear H
      have H := H1
      clear H1
      have H' := Aside0.mk H
      clear H
      go_wp2_with (first | (go_at_call 11; (with_reducible refine (law22_few.calls k _ _ l0 false _ ?side1 ?side2 A5.out).mono ?_); (case side1 => repeat (first | exact (Kd.C_below HR0.out HB.out) | (with_reducible refine Kd.C_alloc ?_ _) | (with_reducible refine Kd.C_drewN ?_ _) | (with_reducible refine Kd.C_drew ?_))); (case side2 => exact HC0.out); rintro e w' ⟨rfl, ⟨nd, rfl⟩⟩; (try first | exact ⟨rfl, _, World.drewN_drewN _ _ _⟩ | exact ⟨rfl, _, Eq.trans (World.drewN_drewN _ _ _) (congrArg (World.drewN _) (Nat.add_assoc _ _ _))⟩)))
      repeat (go_quiet (first | (go_at_call 11; (with_reducible refine (law22_few.calls k _ _ l0 false _ ?side1 ?side2 A5.out).mono ?_); (case side1 => repeat (first | exact (Kd.C_below HR0.out HB.out) | (with_reducible refine Kd.C_alloc ?_ _) | (with_reducible refine Kd.C_drewN ?_ _) | (with_reducible refine Kd.C_drew ?_))); (case side2 => exact HC0.out); rintro e w' ⟨rfl, ⟨nd, rfl⟩⟩; (try first | exact ⟨rfl, _, World.drewN_drewN _ _ _⟩ | exact ⟨rfl, _, Eq.trans (World.drewN_drewN _ _ _) (congrArg (World.drewN _) (Nat.add_assoc _ _ _))⟩))); try go_wp2_with (first | (go_at_call 11; (with_reducible refine (law22_few.calls k _ _ l0 false _ ?side1 ?side2 A5.out).mono ?_); (case side1 => repeat (first | exact (Kd.C_below HR0.out HB.out) | (with_reducible refine Kd.C_alloc ?_ _) | (with_reducible refine Kd.C_drewN ?_ _) | (with_reducible refine Kd.C_drew ?_))); (case side2 => exact HC0.out); rintro e w' ⟨rfl, ⟨nd, rfl⟩⟩; (try first | exact ⟨rfl, _, World.drewN_drewN _ _ _⟩ | exact ⟨rfl, _, Eq.trans (World.drewN_drewN _ _ _) (congrArg (World.drewN _) (Nat.add_assoc _ _ _))⟩))))
      go_meet
      case rel => exact ⟨_, (true), (by first | rfl | (simp; done) | (simp [*]; done) | (simp [bne_nil_]; done)), H', ⟨by first | omega | exact Nat.le_refl _⟩, ⟨by repeat (first | (with_reducible first | exact HB.out | apply below_alloc | apply pw_below_drewN | apply below_drew1) | exact HB.out)⟩⟩
  case rest =>
    clear HC4
    try clear p2
    try clear c4
    try clear c6
    try clear c7
    try clear c7b0
    try clear c7b1
    obtain ⟨kq, x26_3, rfl, HA, HJ3, HB⟩ := hcut
    cases kq with
    | zero => exact absurd HA.out (by simp [law22_ConnsOthers.j0])
    | succ kj3 =>
      have H := HA.out
      clear HA
      simp only [law22_ConnsOthers.j0] at H
      by_cases c10 : x26_3 = true
      · subst c10
        have H1 : ((law22_awake.f kj3).bind fun t217 => (some t217)) = some r := by rw [if_pos rfl] at H; exact H
        clear H
        have H := H1
        clear H1
        replace H := Option.bind_eq_some_iff.mp H
        obtain ⟨t217, A110, H⟩ := H
        replace H : (some t217) = some r := H
        have A11 := Aside0.mk A110
        clear A110
        obtain rfl := Option.some.inj H
        go_wp2_with (first | (go_at_call 5; (with_reducible refine (law22_awake.calls kj3  t217 _ A11.out).mono ?_); rintro e w12 ⟨rfl, hb⟩; have n0_ := Aside0.mk (below_step (by repeat (first | (with_reducible first | exact HB.out | apply below_alloc | apply pw_below_drewN | apply below_drew1) | exact HB.out)) hb); clear HB; have HB := n0_; clear n0_; (try clear hb); (try clear hb2); (try clear hk); (try clear hi)))
        repeat (go_quiet (first | (go_at_call 5; (with_reducible refine (law22_awake.calls kj3  t217 _ A11.out).mono ?_); rintro e w12 ⟨rfl, hb⟩; have n0_ := Aside0.mk (below_step (by repeat (first | (with_reducible first | exact HB.out | apply below_alloc | apply pw_below_drewN | apply below_drew1) | exact HB.out)) hb); clear HB; have HB := n0_; clear n0_; (try clear hb); (try clear hb2); (try clear hk); (try clear hi))); try go_wp2_with (first | (go_at_call 5; (with_reducible refine (law22_awake.calls kj3  t217 _ A11.out).mono ?_); rintro e w12 ⟨rfl, hb⟩; have n0_ := Aside0.mk (below_step (by repeat (first | (with_reducible first | exact HB.out | apply below_alloc | apply pw_below_drewN | apply below_drew1) | exact HB.out)) hb); clear HB; have HB := n0_; clear n0_; (try clear hb); (try clear hb2); (try clear hk); (try clear hi))))
        go_ret
        exact ⟨by first | rfl | (simp [errW_none, errW_some] <;> rfl) | (simp [*, errW_none, errW_some] <;> rfl), by repeat (first | (with_reducible first | exact HB.out | apply below_alloc | apply pw_below_drewN | apply below_drew1) | exact HB.out)⟩
      · replace c10 := Bool.eq_false_iff.mpr c10
        subst c10
        have H1 : ((conns_Push.f kj3 l0 a1 a2).bind fun bt218 => ((conns_Close.f l0 a1).bind fun t224 => ((conns_Accept.f kj3 l0 7).bind fun bt227 => (if (bt218.1.length : Int) = (l0.length : Int) then (if (t224.length : Int) = (l0.length : Int) then (law22_ConnsOthers.j1 kj3 l0 a1 bt218.1 t224 bt227.1 bt227.2.1 bt227.2.2 ((bt227.1.length : Int) != (l0.length : Int))) else (law22_ConnsOthers.j1 kj3 l0 a1 bt218.1 t224 bt227.1 bt227.2.1 bt227.2.2 true)) else (law22_ConnsOthers.j1 kj3 l0 a1 bt218.1 t224 bt227.1 bt227.2.1 bt227.2.2 true))))) = some r := by rw [if_neg (show ¬ (false = true) by decide)] at H; exact H
        clear H
        have H := H1
        clear H1
        replace H := Option.bind_eq_some_iff.mp H
        obtain ⟨⟨t218, t221⟩, A130, H⟩ := H
        replace H : ((conns_Close.f l0 a1).bind fun t224 => ((conns_Accept.f kj3 l0 7).bind fun bt227 => (if (t218.length : Int) = (l0.length : Int) then (if (t224.length : Int) = (l0.length : Int) then (law22_ConnsOthers.j1 kj3 l0 a1 t218 t224 bt227.1 bt227.2.1 bt227.2.2 ((bt227.1.length : Int) != (l0.length : Int))) else (law22_ConnsOthers.j1 kj3 l0 a1 t218 t224 bt227.1 bt227.2.1 bt227.2.2 true)) else (law22_ConnsOthers.j1 kj3 l0 a1 t218 t224 bt227.1 bt227.2.1 bt227.2.2 true)))) = some r := H
        have A13 := Aside0.mk A130
        clear A130
        replace H := Option.bind_eq_some_iff.mp H
        obtain ⟨t224, A140, H⟩ := H
        replace H : ((conns_Accept.f kj3 l0 7).bind fun bt227 => (if (t218.length : Int) = (l0.length : Int) then (if (t224.length : Int) = (l0.length : Int) then (law22_ConnsOthers.j1 kj3 l0 a1 t218 t224 bt227.1 bt227.2.1 bt227.2.2 ((bt227.1.length : Int) != (l0.length : Int))) else (law22_ConnsOthers.j1 kj3 l0 a1 t218 t224 bt227.1 bt227.2.1 bt227.2.2 true)) else (law22_ConnsOthers.j1 kj3 l0 a1 t218 t224 bt227.1 bt227.2.1 bt227.2.2 true))) = some r := H
        have A14 := Aside0.mk A140
        clear A140
        replace H := Option.bind_eq_some_iff.mp H
        obtain ⟨⟨t227, t230, t231⟩, A150, H⟩ := H
        replace H : (if (t218.length : Int) = (l0.length : Int) then (if (t224.length : Int) = (l0.length : Int) then (law22_ConnsOthers.j1 kj3 l0 a1 t218 t224 t227 t230 t231 ((t227.length : Int) != (l0.length : Int))) else (law22_ConnsOthers.j1 kj3 l0 a1 t218 t224 t227 t230 t231 true)) else (law22_ConnsOthers.j1 kj3 l0 a1 t218 t224 t227 t230 t231 true)) = some r := H
        have A15 := Aside0.mk A150
        clear A150
        have HC16 := Aside0.mk H
        clear H
        go_upto_region 6 with (first | (go_at_call 13; (with_reducible refine (conns_Push.calls kj3 (fun k_ => k_ < w.heap.size) _ _ l0 a1 a2 t218 t221 _ ?side1 A13.out).mono ?_); (case side1 => exact Kd.V_mk HC0.out (Kd.F_below (Kd.C_F k34_heap HR0.out) (by repeat (first | (with_reducible first | exact HB.out | apply below_alloc | apply pw_below_drewN | apply below_drew1) | exact HB.out)))); rintro e w17 ⟨v219, v222, rfl, ho0, ho1, hb⟩; have n0_ := Aside0.mk (Kd.V_lower (Kd.V_mono (ok' := fun k_ => some k_ ≠ (v222 : Value).ownBlock) ho0 (fun k_ hk_ => hk_.2)) (below_size (by repeat (first | (with_reducible first | exact HB.out | apply below_alloc | apply pw_below_drewN | apply below_drew1) | exact HB.out)))); have n1_ := Aside0.mk (Kd.R_lower (Kd.R_mono (ok' := fun k_ => True) ho1 (fun _ hk_ => trivial)) (below_size (by repeat (first | (with_reducible first | exact HB.out | apply below_alloc | apply pw_below_drewN | apply below_drew1) | exact HB.out)))); have n2_ := Aside0.mk (below_step (by repeat (first | (with_reducible first | exact HB.out | apply below_alloc | apply pw_below_drewN | apply below_drew1) | exact HB.out)) hb); clear HB; have HO220 := n0_; have HO223 := n1_; have HB := n2_; clear n0_ n1_ n2_; (try clear hb); (try clear hb2); (try clear hk); (try clear hi); (try clear ho0); (try clear ho1)) | (go_at_call 7; (with_reducible refine (conns_Close.calls (fun k_ => k_ < w.heap.size) _ _ l0 a1 t224 _ ?side1 A14.out).mono ?_); (case side1 => exact Kd.V_mk HC0.out (Kd.F_below (Kd.C_F k34_heap HR0.out) (by repeat (first | (with_reducible first | exact HB.out | apply below_alloc | apply pw_below_drewN | apply below_drew1) | exact HB.out)))); rintro e w18 ⟨v225, rfl, ho0, hb⟩; have n0_ := Aside0.mk (Kd.V_below (by (with_reducible repeat (first | apply Kd.V_alloc | apply Kd.V_drewN | apply Kd.V_drew)); exact HO220.out) hb); have n1_ := Aside0.mk (Kd.R_below (by (with_reducible repeat (first | apply Kd.R_alloc | apply Kd.R_drewN | apply Kd.R_drew)); exact HO223.out) hb); have n2_ := Aside0.mk (Kd.V_lower (Kd.V_mono (ok' := fun k_ => some k_ ≠ (v222 : Value).ownBlock) ho0 (fun k_ hk_ => Or.elim hk_ (fun hs_ => fun e_ => Nat.not_le.2 hs_ (Kd.R_base HO223.out k_ e_.symm)) (fun hn_ => (Kd.fresh' (Kd.R_lt (by (with_reducible repeat (first | apply Kd.R_alloc | apply Kd.R_drewN | apply Kd.R_drew)); exact HO223.out)) k_ hn_)))) (below_size (by repeat (first | (with_reducible first | exact HB.out | apply below_alloc | apply pw_below_drewN | apply below_drew1) | exact HB.out)))); have n3_ := Aside0.mk (below_step (by repeat (first | (with_reducible first | exact HB.out | apply below_alloc | apply pw_below_drewN | apply below_drew1) | exact HB.out)) hb); clear HO220; clear HO223; clear HB; have HO220 := n0_; have HO223 := n1_; have HO226 := n2_; have HB := n3_; clear n0_ n1_ n2_ n3_; (try clear hb); (try clear hb2); (try clear hk); (try clear hi); (try clear ho0)) | (go_at_call 8; (with_reducible refine (conns_Accept.calls kj3 (fun k_ => k_ < w.heap.size) _ _ l0 7 t227 t230 t231 _ ?side1 A15.out).mono ?_); (case side1 => exact Kd.V_mk HC0.out (Kd.F_below (Kd.C_F k34_heap HR0.out) (by repeat (first | (with_reducible first | exact HB.out | apply below_alloc | apply pw_below_drewN | apply below_drew1) | exact HB.out)))); rintro e w19 ⟨v228, rfl, ho0, hb⟩; have n0_ := Aside0.mk (Kd.V_below (by (with_reducible repeat (first | apply Kd.V_alloc | apply Kd.V_drewN | apply Kd.V_drew)); exact HO220.out) hb); have n1_ := Aside0.mk (Kd.R_below (by (with_reducible repeat (first | apply Kd.R_alloc | apply Kd.R_drewN | apply Kd.R_drew)); exact HO223.out) hb); have n2_ := Aside0.mk (Kd.V_below (by (with_reducible repeat (first | apply Kd.V_alloc | apply Kd.V_drewN | apply Kd.V_drew)); exact HO226.out) hb); have n3_ := Aside0.mk (Kd.V_lower (Kd.V_mono (ok' := fun k_ => some k_ ≠ (v222 : Value).ownBlock) ho0 (fun k_ hk_ => Or.elim hk_ (fun hs_ => fun e_ => Nat.not_le.2 hs_ (Kd.R_base HO223.out k_ e_.symm)) (fun hn_ => (Kd.fresh' (Kd.R_lt (by (with_reducible repeat (first | apply Kd.R_alloc | apply Kd.R_drewN | apply Kd.R_drew)); exact HO223.out)) k_ hn_)))) (below_size (by repeat (first | (with_reducible first | exact HB.out | apply below_alloc | apply pw_below_drewN | apply below_drew1) | exact HB.out)))); have n4_ := Aside0.mk (below_step (by repeat (first | (with_reducible first | exact HB.out | apply below_alloc | apply pw_below_drewN | apply below_drew1) | exact HB.out)) hb); clear HO220; clear HO223; clear HO226; clear HB; have HO220 := n0_; have HO223 := n1_; have HO226 := n2_; have HO229 := n3_; have HB := n4_; clear n0_ n1_ n2_ n3_ n4_; (try clear hb); (try clear hb2); (try clear hk); (try clear hi); (try clear ho0)))
        repeat (go_quiet (first | (go_at_call 13; (with_reducible refine (conns_Push.calls kj3 (fun k_ => k_ < w.heap.size) _ _ l0 a1 a2 t218 t221 _ ?side1 A13.out).mono ?_); (case side1 => exact Kd.V_mk HC0.out (Kd.F_below (Kd.C_F k34_heap HR0.out) (by repeat (first | (with_reducible first | exact HB.out | apply below_alloc | apply pw_below_drewN | apply below_drew1) | exact HB.out)))); rintro e w17 ⟨v219, v222, rfl, ho0, ho1, hb⟩; have n0_ := Aside0.mk (Kd.V_lower (Kd.V_mono (ok' := fun k_ => some k_ ≠ (v222 : Value).ownBlock) ho0 (fun k_ hk_ => hk_.2)) (below_size (by repeat (first | (with_reducible first | exact HB.out | apply below_alloc | apply pw_below_drewN | apply below_drew1) | exact HB.out)))); have n1_ := Aside0.mk (Kd.R_lower (Kd.R_mono (ok' := fun k_ => True) ho1 (fun _ hk_ => trivial)) (below_size (by repeat (first | (with_reducible first | exact HB.out | apply below_alloc | apply pw_below_drewN | apply below_drew1) | exact HB.out)))); have n2_ := Aside0.mk (below_step (by repeat (first | (with_reducible first | exact HB.out | apply below_alloc | apply pw_below_drewN | apply below_drew1) | exact HB.out)) hb); clear HB; have HO220 := n0_; have HO223 := n1_; have HB := n2_; clear n0_ n1_ n2_; (try clear hb); (try clear hb2); (try clear hk); (try clear hi); (try clear ho0); (try clear ho1)) | (go_at_call 7; (with_reducible refine (conns_Close.calls (fun k_ => k_ < w.heap.size) _ _ l0 a1 t224 _ ?side1 A14.out).mono ?_); (case side1 => exact Kd.V_mk HC0.out (Kd.F_below (Kd.C_F k34_heap HR0.out) (by repeat (first | (with_reducible first | exact HB.out | apply below_alloc | apply pw_below_drewN | apply below_drew1) | exact HB.out)))); rintro e w18 ⟨v225, rfl, ho0, hb⟩; have n0_ := Aside0.mk (Kd.V_below (by (with_reducible repeat (first | apply Kd.V_alloc | apply Kd.V_drewN | apply Kd.V_drew)); exact HO220.out) hb); have n1_ := Aside0.mk (Kd.R_below (by (with_reducible repeat (first | apply Kd.R_alloc | apply Kd.R_drewN | apply Kd.R_drew)); exact HO223.out) hb); have n2_ := Aside0.mk (Kd.V_lower (Kd.V_mono (ok' := fun k_ => some k_ ≠ (v222 : Value).ownBlock) ho0 (fun k_ hk_ => Or.elim hk_ (fun hs_ => fun e_ => Nat.not_le.2 hs_ (Kd.R_base HO223.out k_ e_.symm)) (fun hn_ => (Kd.fresh' (Kd.R_lt (by (with_reducible repeat (first | apply Kd.R_alloc | apply Kd.R_drewN | apply Kd.R_drew)); exact HO223.out)) k_ hn_)))) (below_size (by repeat (first | (with_reducible first | exact HB.out | apply below_alloc | apply pw_below_drewN | apply below_drew1) | exact HB.out)))); have n3_ := Aside0.mk (below_step (by repeat (first | (with_reducible first | exact HB.out | apply below_alloc | apply pw_below_drewN | apply below_drew1) | exact HB.out)) hb); clear HO220; clear HO223; clear HB; have HO220 := n0_; have HO223 := n1_; have HO226 := n2_; have HB := n3_; clear n0_ n1_ n2_ n3_; (try clear hb); (try clear hb2); (try clear hk); (try clear hi); (try clear ho0)) | (go_at_call 8; (with_reducible refine (conns_Accept.calls kj3 (fun k_ => k_ < w.heap.size) _ _ l0 7 t227 t230 t231 _ ?side1 A15.out).mono ?_); (case side1 => exact Kd.V_mk HC0.out (Kd.F_below (Kd.C_F k34_heap HR0.out) (by repeat (first | (with_reducible first | exact HB.out | apply below_alloc | apply pw_below_drewN | apply below_drew1) | exact HB.out)))); rintro e w19 ⟨v228, rfl, ho0, hb⟩; have n0_ := Aside0.mk (Kd.V_below (by (with_reducible repeat (first | apply Kd.V_alloc | apply Kd.V_drewN | apply Kd.V_drew)); exact HO220.out) hb); have n1_ := Aside0.mk (Kd.R_below (by (with_reducible repeat (first | apply Kd.R_alloc | apply Kd.R_drewN | apply Kd.R_drew)); exact HO223.out) hb); have n2_ := Aside0.mk (Kd.V_below (by (with_reducible repeat (first | apply Kd.V_alloc | apply Kd.V_drewN | apply Kd.V_drew)); exact HO226.out) hb); have n3_ := Aside0.mk (Kd.V_lower (Kd.V_mono (ok' := fun k_ => some k_ ≠ (v222 : Value).ownBlock) ho0 (fun k_ hk_ => Or.elim hk_ (fun hs_ => fun e_ => Nat.not_le.2 hs_ (Kd.R_base HO223.out k_ e_.symm)) (fun hn_ => (Kd.fresh' (Kd.R_lt (by (with_reducible repeat (first | apply Kd.R_alloc | apply Kd.R_drewN | apply Kd.R_drew)); exact HO223.out)) k_ hn_)))) (below_size (by repeat (first | (with_reducible first | exact HB.out | apply below_alloc | apply pw_below_drewN | apply below_drew1) | exact HB.out)))); have n4_ := Aside0.mk (below_step (by repeat (first | (with_reducible first | exact HB.out | apply below_alloc | apply pw_below_drewN | apply below_drew1) | exact HB.out)) hb); clear HO220; clear HO223; clear HO226; clear HB; have HO220 := n0_; have HO223 := n1_; have HO226 := n2_; have HO229 := n3_; have HB := n4_; clear n0_ n1_ n2_ n3_ n4_; (try clear hb); (try clear hb2); (try clear hk); (try clear hi); (try clear ho0))); go_upto_region 6 with (first | (go_at_call 13; (with_reducible refine (conns_Push.calls kj3 (fun k_ => k_ < w.heap.size) _ _ l0 a1 a2 t218 t221 _ ?side1 A13.out).mono ?_); (case side1 => exact Kd.V_mk HC0.out (Kd.F_below (Kd.C_F k34_heap HR0.out) (by repeat (first | (with_reducible first | exact HB.out | apply below_alloc | apply pw_below_drewN | apply below_drew1) | exact HB.out)))); rintro e w17 ⟨v219, v222, rfl, ho0, ho1, hb⟩; have n0_ := Aside0.mk (Kd.V_lower (Kd.V_mono (ok' := fun k_ => some k_ ≠ (v222 : Value).ownBlock) ho0 (fun k_ hk_ => hk_.2)) (below_size (by repeat (first | (with_reducible first | exact HB.out | apply below_alloc | apply pw_below_drewN | apply below_drew1) | exact HB.out)))); have n1_ := Aside0.mk (Kd.R_lower (Kd.R_mono (ok' := fun k_ => True) ho1 (fun _ hk_ => trivial)) (below_size (by repeat (first | (with_reducible first | exact HB.out | apply below_alloc | apply pw_below_drewN | apply below_drew1) | exact HB.out)))); have n2_ := Aside0.mk (below_step (by repeat (first | (with_reducible first | exact HB.out | apply below_alloc | apply pw_below_drewN | apply below_drew1) | exact HB.out)) hb); clear HB; have HO220 := n0_; have HO223 := n1_; have HB := n2_; clear n0_ n1_ n2_; (try clear hb); (try clear hb2); (try clear hk); (try clear hi); (try clear ho0); (try clear ho1)) | (go_at_call 7; (with_reducible refine (conns_Close.calls (fun k_ => k_ < w.heap.size) _ _ l0 a1 t224 _ ?side1 A14.out).mono ?_); (case side1 => exact Kd.V_mk HC0.out (Kd.F_below (Kd.C_F k34_heap HR0.out) (by repeat (first | (with_reducible first | exact HB.out | apply below_alloc | apply pw_below_drewN | apply below_drew1) | exact HB.out)))); rintro e w18 ⟨v225, rfl, ho0, hb⟩; have n0_ := Aside0.mk (Kd.V_below (by (with_reducible repeat (first | apply Kd.V_alloc | apply Kd.V_drewN | apply Kd.V_drew)); exact HO220.out) hb); have n1_ := Aside0.mk (Kd.R_below (by (with_reducible repeat (first | apply Kd.R_alloc | apply Kd.R_drewN | apply Kd.R_drew)); exact HO223.out) hb); have n2_ := Aside0.mk (Kd.V_lower (Kd.V_mono (ok' := fun k_ => some k_ ≠ (v222 : Value).ownBlock) ho0 (fun k_ hk_ => Or.elim hk_ (fun hs_ => fun e_ => Nat.not_le.2 hs_ (Kd.R_base HO223.out k_ e_.symm)) (fun hn_ => (Kd.fresh' (Kd.R_lt (by (with_reducible repeat (first | apply Kd.R_alloc | apply Kd.R_drewN | apply Kd.R_drew)); exact HO223.out)) k_ hn_)))) (below_size (by repeat (first | (with_reducible first | exact HB.out | apply below_alloc | apply pw_below_drewN | apply below_drew1) | exact HB.out)))); have n3_ := Aside0.mk (below_step (by repeat (first | (with_reducible first | exact HB.out | apply below_alloc | apply pw_below_drewN | apply below_drew1) | exact HB.out)) hb); clear HO220; clear HO223; clear HB; have HO220 := n0_; have HO223 := n1_; have HO226 := n2_; have HB := n3_; clear n0_ n1_ n2_ n3_; (try clear hb); (try clear hb2); (try clear hk); (try clear hi); (try clear ho0)) | (go_at_call 8; (with_reducible refine (conns_Accept.calls kj3 (fun k_ => k_ < w.heap.size) _ _ l0 7 t227 t230 t231 _ ?side1 A15.out).mono ?_); (case side1 => exact Kd.V_mk HC0.out (Kd.F_below (Kd.C_F k34_heap HR0.out) (by repeat (first | (with_reducible first | exact HB.out | apply below_alloc | apply pw_below_drewN | apply below_drew1) | exact HB.out)))); rintro e w19 ⟨v228, rfl, ho0, hb⟩; have n0_ := Aside0.mk (Kd.V_below (by (with_reducible repeat (first | apply Kd.V_alloc | apply Kd.V_drewN | apply Kd.V_drew)); exact HO220.out) hb); have n1_ := Aside0.mk (Kd.R_below (by (with_reducible repeat (first | apply Kd.R_alloc | apply Kd.R_drewN | apply Kd.R_drew)); exact HO223.out) hb); have n2_ := Aside0.mk (Kd.V_below (by (with_reducible repeat (first | apply Kd.V_alloc | apply Kd.V_drewN | apply Kd.V_drew)); exact HO226.out) hb); have n3_ := Aside0.mk (Kd.V_lower (Kd.V_mono (ok' := fun k_ => some k_ ≠ (v222 : Value).ownBlock) ho0 (fun k_ hk_ => Or.elim hk_ (fun hs_ => fun e_ => Nat.not_le.2 hs_ (Kd.R_base HO223.out k_ e_.symm)) (fun hn_ => (Kd.fresh' (Kd.R_lt (by (with_reducible repeat (first | apply Kd.R_alloc | apply Kd.R_drewN | apply Kd.R_drew)); exact HO223.out)) k_ hn_)))) (below_size (by repeat (first | (with_reducible first | exact HB.out | apply below_alloc | apply pw_below_drewN | apply below_drew1) | exact HB.out)))); have n4_ := Aside0.mk (below_step (by repeat (first | (with_reducible first | exact HB.out | apply below_alloc | apply pw_below_drewN | apply below_drew1) | exact HB.out)) hb); clear HO220; clear HO223; clear HO226; clear HB; have HO220 := n0_; have HO223 := n1_; have HO226 := n2_; have HO229 := n3_; have HB := n4_; clear n0_ n1_ n2_ n3_ n4_; (try clear hb); (try clear hb2); (try clear hk); (try clear hi); (try clear ho0))))
        (try simp only [Act.put, List.setIfInBounds_toArray, List.set_cons_zero, List.set_cons_succ])
        go_cut [62] (fun v62 wc => ∃ (kq : Nat) (x62_15 : Bool), v62 = .bool x62_15 ∧ Aside0 (law22_ConnsOthers.j1 kq l0 a1 t218 t224 t227 t230 t231 x62_15 = some r) ∧ Aside0 (kq ≤ kj3) ∧ Aside0 (Kd.V k34 34 wc w.heap.size (fun _ => True) v219 t218) ∧ Aside0 (Kd.V k34 34 wc w.heap.size (fun _ => True) v225 t224) ∧ Aside0 (Kd.V k34 34 wc w.heap.size (fun _ => True) v228 t227) ∧ Aside0 (Below w.heap.size w wc))
        case first =>
          have H := HC16.out
          clear HC16
          by_cases c20 : (t218.length : Int) = (l0.length : Int)
          · rw [if_pos c20] at H
            have c20b0 : ((t218.length : Int) == (l0.length : Int)) = true := beq_iff_eq.mpr c20
            have c20b1 : ((t218.length : Int) != (l0.length : Int)) = false := bne_eq_false_iff_eq.mpr c20
            have c20b2 : (t218.length == l0.length) = true := by first | simpa using c20 | (simp at c20 ⊢; omega)
            clear c20
            (first | rw [c20b0] | (simp only [i64_w, i32_w]; rw [c20b0]) | skip)
            by_cases c21 : (t224.length : Int) = (l0.length : Int)
            · rw [if_pos c21] at H
              have c21b0 : ((t224.length : Int) == (l0.length : Int)) = true := beq_iff_eq.mpr c21
              have c21b1 : ((t224.length : Int) != (l0.length : Int)) = false := bne_eq_false_iff_eq.mpr c21
              have c21b2 : (t224.length == l0.length) = true := by first | simpa using c21 | (simp at c21 ⊢; omega)
              clear c21
              have H' := Aside0.mk H
              clear H
              obtain ⟨Ao22, co22, eo22⟩ := Kd.V_slice HO220.out
              subst eo22
              obtain ⟨Ao23, co23, eo23⟩ := Kd.V_slice HO226.out
              subst eo23
              obtain ⟨Ao24, co24, eo24⟩ := Kd.V_slice HO229.out
              subst eo24
              go_wp2
              repeat (go_quiet (fail); try go_wp2)
              go_meet
              case rel => exact ⟨_, (((t227.length : Int) != (l0.length : Int))), (by first | rfl | (simp; done) | (simp [*]; done) | (simp [bne_nil_]; done)), H', ⟨by have := HJ3.out; first | omega | exact Nat.le_refl _⟩, ⟨by (with_reducible repeat (first | apply Kd.V_alloc | apply Kd.V_drewN | apply Kd.V_drew)); exact Kd.V_mono HO220.out (fun _ hk => trivial)⟩, ⟨by (with_reducible repeat (first | apply Kd.V_alloc | apply Kd.V_drewN | apply Kd.V_drew)); exact Kd.V_mono HO226.out (fun _ hk => trivial)⟩, ⟨by (with_reducible repeat (first | apply Kd.V_alloc | apply Kd.V_drewN | apply Kd.V_drew)); exact Kd.V_mono HO229.out (fun _ hk => trivial)⟩, ⟨by repeat (first | (with_reducible first | exact HB.out | apply below_alloc | apply pw_below_drewN | apply below_drew1) | exact HB.out)⟩⟩
            · rw [if_neg c21] at H
              have c21b0 : ((t224.length : Int) == (l0.length : Int)) = false := beq_eq_false_iff_ne.mpr c21
              have c21b1 : ((t224.length : Int) != (l0.length : Int)) = true := bne_iff_ne.mpr c21
              have c21b2 : (t224.length == l0.length) = false := by first | simpa using c21 | (simp at c21 ⊢; omega)
              have H' := Aside0.mk H
              clear H
              obtain ⟨Ao25, co25, eo25⟩ := Kd.V_slice HO220.out
              subst eo25
              obtain ⟨Ao26, co26, eo26⟩ := Kd.V_slice HO226.out
              subst eo26
              go_wp2
              repeat (go_quiet (fail); try go_wp2)
              go_meet
              case rel => exact ⟨_, (true), (by first | rfl | (simp; done) | (simp [*]; done) | (simp [bne_nil_]; done)), H', ⟨by have := HJ3.out; first | omega | exact Nat.le_refl _⟩, ⟨by (with_reducible repeat (first | apply Kd.V_alloc | apply Kd.V_drewN | apply Kd.V_drew)); exact Kd.V_mono HO220.out (fun _ hk => trivial)⟩, ⟨by (with_reducible repeat (first | apply Kd.V_alloc | apply Kd.V_drewN | apply Kd.V_drew)); exact Kd.V_mono HO226.out (fun _ hk => trivial)⟩, ⟨by (with_reducible repeat (first | apply Kd.V_alloc | apply Kd.V_drewN | apply Kd.V_drew)); exact Kd.V_mono HO229.out (fun _ hk => trivial)⟩, ⟨by repeat (first | (with_reducible first | exact HB.out | apply below_alloc | apply pw_below_drewN | apply below_drew1) | exact HB.out)⟩⟩
          · rw [if_neg c20] at H
            have c20b0 : ((t218.length : Int) == (l0.length : Int)) = false := beq_eq_false_iff_ne.mpr c20
            have c20b1 : ((t218.length : Int) != (l0.length : Int)) = true := bne_iff_ne.mpr c20
            have c20b2 : (t218.length == l0.length) = false := by first | simpa using c20 | (simp at c20 ⊢; omega)
            (first | rw [c20b0] | (simp only [i64_w, i32_w]; rw [c20b0]) | skip)
            have H' := Aside0.mk H
            clear H
            obtain ⟨Ao27, co27, eo27⟩ := Kd.V_slice HO220.out
            subst eo27
            go_wp2
            repeat (go_quiet (fail); try go_wp2)
            go_meet
            case rel => exact ⟨_, (true), (by first | rfl | (simp; done) | (simp [*]; done) | (simp [bne_nil_]; done)), H', ⟨by have := HJ3.out; first | omega | exact Nat.le_refl _⟩, ⟨by (with_reducible repeat (first | apply Kd.V_alloc | apply Kd.V_drewN | apply Kd.V_drew)); exact Kd.V_mono HO220.out (fun _ hk => trivial)⟩, ⟨by (with_reducible repeat (first | apply Kd.V_alloc | apply Kd.V_drewN | apply Kd.V_drew)); exact Kd.V_mono HO226.out (fun _ hk => trivial)⟩, ⟨by (with_reducible repeat (first | apply Kd.V_alloc | apply Kd.V_drewN | apply Kd.V_drew)); exact Kd.V_mono HO229.out (fun _ hk => trivial)⟩, ⟨by repeat (first | (with_reducible first | exact HB.out | apply below_alloc | apply pw_below_drewN | apply below_drew1) | exact HB.out)⟩⟩
        case rest =>
          clear HC16
          try clear c1
          try clear c2
          try clear p2
          try clear c4
          try clear c6
          try clear c7
          try clear c7b0
          try clear c7b1
          try clear c10
          try clear c20
          try clear c20b0
          try clear c20b1
          try clear c20b2
          try clear c21
          try clear c21b0
          try clear c21b1
          try clear c21b2
          try clear p2
          obtain ⟨kq, x62_15, rfl, HA, HJ15, HO_7, HO_9, HO_10, HB⟩ := hcut
          cases kq with
          | zero => exact absurd HA.out (by simp [law22_ConnsOthers.j1])
          | succ kj15 =>
            have H := HA.out
            clear HA
            simp only [law22_ConnsOthers.j1] at H
            by_cases c28 : x62_15 = true
            · subst c28
              have H1 : (none) = some r := by rw [if_pos rfl] at H; exact H
              clear H
              have H := H1
              clear H1
              exact absurd H (by simp)
            · replace c28 := Bool.eq_false_iff.mpr c28
              subst c28
              have H1 : (law22_ConnsOthers.l0 kj15 l0 a1 t218 t224 t227 t230 t231 0) = some r := by rw [if_neg (show ¬ (false = true) by decide)] at H; exact H
              clear H
              have H := H1
              clear H1
              have H' := Aside0.mk H
              clear H
              go_wp2
              repeat (go_quiet (fail); try go_wp2)
              go_loopg [13] kj15 (fun kq v13 w' => ∃ (x13_3 : Int), v13 = .int .i64 x13_3 ∧ Aside0 (law22_ConnsOthers.l0 kq l0 a1 t218 t224 t227 t230 t231 x13_3 = some r) ∧ Aside0 (kq ≤ kj15) ∧ Aside0 (Kd.V k34 34 w' w.heap.size (fun _ => True) v219 t218) ∧ Aside0 (Kd.V k34 34 w' w.heap.size (fun _ => True) v225 t224) ∧ Aside0 (Kd.V k34 34 w' w.heap.size (fun _ => True) v228 t227) ∧ Aside0 (Below w.heap.size w w'))
              case atStart => exact ⟨(0), (by first | rfl | (simp; done) | (simp [*]; done) | (simp [bne_nil_]; done)), H', ⟨Nat.le_refl _⟩, ⟨by (with_reducible repeat (first | apply Kd.V_alloc | apply Kd.V_drewN | apply Kd.V_drew)); exact HO_7.out⟩, ⟨by (with_reducible repeat (first | apply Kd.V_alloc | apply Kd.V_drewN | apply Kd.V_drew)); exact HO_9.out⟩, ⟨by (with_reducible repeat (first | apply Kd.V_alloc | apply Kd.V_drewN | apply Kd.V_drew)); exact HO_10.out⟩, ⟨by repeat (first | (with_reducible first | exact HB.out | apply below_alloc | apply pw_below_drewN | apply below_drew1) | exact HB.out)⟩⟩
              case round =>
                clear H'
                try clear c1
                try clear c2
                try clear p2
                try clear c4
                try clear c6
                try clear c7
                try clear c7b0
                try clear c7b1
                try clear c10
                try clear c20
                try clear c20b0
                try clear c20b1
                try clear c20b2
                try clear c21
                try clear c21b0
                try clear c21b1
                try clear c21b2
                try clear c28
                try clear p2
                obtain ⟨x13_3, rfl, HA, HK3, HO_7, HO_9, HO_10, HB⟩ := hrel
                cases gk with
                | zero => exact absurd HA.out (by simp [law22_ConnsOthers.l0])
                | succ k3 =>
                  have H := HA.out
                  clear HA
                  simp only [law22_ConnsOthers.l0] at H
                  by_cases c29 : x13_3 < (l0.length : Int)
                  · rw [if_pos c29] at H
                    have c29b0 : decide (x13_3 < (l0.length : Int)) = true := decide_eq_true c29
                    clear c29
                    by_cases c30 : x13_3 = a1
                    · rw [if_pos c30] at H
                      have c30b0 : (x13_3 == a1) = true := beq_iff_eq.mpr c30
                      have c30b1 : (x13_3 != a1) = false := bne_eq_false_iff_eq.mpr c30
                      clear c30
                      by_cases c31 : t231 = true
                      · subst c31
                        have H1 : (if x13_3 = t230 then (law22_ConnsOthers.l0 k3 l0 a1 t218 t224 t227 t230 true (wrap64 (x13_3 + 1))) else (if 0 ≤ x13_3 then (if x13_3 < (t227.length : Int) then (if (!(((rd_T34 t227 x13_3).f0) == ((rd_T34 l0 x13_3).f0)) || (!(((rd_T34 t227 x13_3).f1) == ((rd_T34 l0 x13_3).f1)) || (!(((rd_T34 t227 x13_3).f2) == ((rd_T34 l0 x13_3).f2)) || ((!((((rd_T34 t227 x13_3).f3.f0).toList) == (((rd_T34 l0 x13_3).f3.f0).toList)) || (!(((rd_T34 t227 x13_3).f3.f1) == ((rd_T34 l0 x13_3).f3.f1)))))))) = true then (none) else (law22_ConnsOthers.l0 k3 l0 a1 t218 t224 t227 t230 true (wrap64 (x13_3 + 1)))) else (none)) else (none))) = some r := by rw [if_pos rfl] at H; exact H
                        clear H
                        have H := H1
                        clear H1
                        by_cases c32 : x13_3 = t230
                        · rw [if_pos c32] at H
                          have c32b0 : (x13_3 == t230) = true := beq_iff_eq.mpr c32
                          have c32b1 : (x13_3 != t230) = false := bne_eq_false_iff_eq.mpr c32
                          clear c32
                          have H' := Aside0.mk H
                          clear H
                          go_wp2
                          repeat (go_quiet (fail); try go_wp2)
                          go_roundg k3
                          case measure => have := HJ3.out; have := HJ15.out; have := HK3.out; omega
                          case rel => exact ⟨(wrap64 (x13_3 + 1)), (by first | rfl | (simp; done) | (simp [*]; done) | (simp [bne_nil_]; done)), H', ⟨by have := HJ3.out; have := HJ15.out; have := HK3.out; omega⟩, ⟨by (with_reducible repeat (first | apply Kd.V_alloc | apply Kd.V_drewN | apply Kd.V_drew)); exact HO_7.out⟩, ⟨by (with_reducible repeat (first | apply Kd.V_alloc | apply Kd.V_drewN | apply Kd.V_drew)); exact HO_9.out⟩, ⟨by (with_reducible repeat (first | apply Kd.V_alloc | apply Kd.V_drewN | apply Kd.V_drew)); exact HO_10.out⟩, ⟨by repeat (first | (with_reducible first | exact HB.out | apply below_alloc | apply pw_below_drewN | apply below_drew1) | exact HB.out)⟩⟩
                        · rw [if_neg c32] at H
                          have c32b0 : (x13_3 == t230) = false := beq_eq_false_iff_ne.mpr c32
                          have c32b1 : (x13_3 != t230) = true := bne_iff_ne.mpr c32
                          by_cases c33 : 0 ≤ x13_3
                          · rw [if_pos c33] at H
                            have c33b0 : decide (0 ≤ x13_3) = true := decide_eq_true c33
                            clear c33
                            by_cases c34 : x13_3 < (t227.length : Int)
                            · rw [if_pos c34] at H
                              have c34b0 : decide (x13_3 < (t227.length : Int)) = true := decide_eq_true c34
                              clear c34
                              by_cases c35 : (!(((rd_T34 t227 x13_3).f0) == ((rd_T34 l0 x13_3).f0)) || (!(((rd_T34 t227 x13_3).f1) == ((rd_T34 l0 x13_3).f1)) || (!(((rd_T34 t227 x13_3).f2) == ((rd_T34 l0 x13_3).f2)) || ((!((((rd_T34 t227 x13_3).f3.f0).toList) == (((rd_T34 l0 x13_3).f3.f0).toList)) || (!(((rd_T34 t227 x13_3).f3.f1) == ((rd_T34 l0 x13_3).f3.f1)))))))) = true
                              · rw [if_pos c35] at H
                                exact absurd H (by simp)
                              · rw [if_neg c35] at H
                                have c35b0 : (!(((rd_T34 t227 x13_3).f0) == ((rd_T34 l0 x13_3).f0)) || (!(((rd_T34 t227 x13_3).f1) == ((rd_T34 l0 x13_3).f1)) || (!(((rd_T34 t227 x13_3).f2) == ((rd_T34 l0 x13_3).f2)) || ((!((((rd_T34 t227 x13_3).f3.f0).toList) == (((rd_T34 l0 x13_3).f3.f0).toList)) || (!(((rd_T34 t227 x13_3).f3.f1) == ((rd_T34 l0 x13_3).f3.f1)))))))) = false := by simpa using c35
                                clear c35
                                have H' := Aside0.mk H
                                clear H
                                obtain ⟨Ao36, co36, eo36⟩ := Kd.V_slice HO_10.out
                                subst eo36
                                have p232 : 0 ≤ (x13_3 : Int) := of_decide_eq_true (by first | (with_reducible assumption) | assumption)
                                have q232 : x13_3 < (t227.length : Int) := of_decide_eq_true (by first | (with_reducible assumption) | assumption)
                                obtain ⟨ad232, e232, hx232_0, hx232_1, hx232_2, hx232_3, hx232_4⟩ := at_T34 (Kd.V_reads' HO_10.out).2.2 x13_3 p232 q232
                                cases e232
                                replace p232 := eq_true p232
                                replace q232 := eq_true q232
                                have p233 : 0 ≤ (x13_3 : Int) := of_decide_eq_true (by first | (with_reducible assumption) | assumption)
                                have q233 : x13_3 < (l0.length : Int) := of_decide_eq_true (by first | (with_reducible assumption) | assumption)
                                obtain ⟨ad233, e233, hx233_0, hx233_1, hx233_2, hx233_3, hx233_4⟩ := at_T34 HR0.out x13_3 p233 q233
                                cases e233
                                replace hx233_0 := (HB.out.cell (World.block_lt_of_cell? w _ hx233_0)).trans hx233_0
                                replace hx233_1 := (HB.out.cell (World.block_lt_of_cell? w _ hx233_1)).trans hx233_1
                                replace hx233_2 := (HB.out.cell (World.block_lt_of_cell? w _ hx233_2)).trans hx233_2
                                replace hx233_3 := (HB.out.cell (World.block_lt_of_cell? w _ hx233_3)).trans hx233_3
                                replace hx233_4 := (HB.out.cell (World.block_lt_of_cell? w _ hx233_4)).trans hx233_4
                                replace p233 := eq_true p233
                                replace q233 := eq_true q233
                                go_wp2
                                repeat (go_quiet (fail); try go_wp2)
                                go_roundg k3
                                case measure => have := HJ3.out; have := HJ15.out; have := HK3.out; omega
                                case rel => exact ⟨(wrap64 (x13_3 + 1)), (by first | rfl | (simp; done) | (simp [*]; done) | (simp [bne_nil_]; done)), H', ⟨by have := HJ3.out; have := HJ15.out; have := HK3.out; omega⟩, ⟨by (with_reducible repeat (first | apply Kd.V_alloc | apply Kd.V_drewN | apply Kd.V_drew)); exact HO_7.out⟩, ⟨by (with_reducible repeat (first | apply Kd.V_alloc | apply Kd.V_drewN | apply Kd.V_drew)); exact HO_9.out⟩, ⟨by (with_reducible repeat (first | apply Kd.V_alloc | apply Kd.V_drewN | apply Kd.V_drew)); exact HO_10.out⟩, ⟨by repeat (first | (with_reducible first | exact HB.out | apply below_alloc | apply pw_below_drewN | apply below_drew1) | exact HB.out)⟩⟩
                            · rw [if_neg c34] at H
                              exact absurd H (by simp)
                          · rw [if_neg c33] at H
                            exact absurd H (by simp)
                      · replace c31 := Bool.eq_false_iff.mpr c31
                        subst c31
                        have H1 : (if 0 ≤ x13_3 then (if x13_3 < (t227.length : Int) then (if (!(((rd_T34 t227 x13_3).f0) == ((rd_T34 l0 x13_3).f0)) || (!(((rd_T34 t227 x13_3).f1) == ((rd_T34 l0 x13_3).f1)) || (!(((rd_T34 t227 x13_3).f2) == ((rd_T34 l0 x13_3).f2)) || ((!((((rd_T34 t227 x13_3).f3.f0).toList) == (((rd_T34 l0 x13_3).f3.f0).toList)) || (!(((rd_T34 t227 x13_3).f3.f1) == ((rd_T34 l0 x13_3).f3.f1)))))))) = true then (none) else (law22_ConnsOthers.l0 k3 l0 a1 t218 t224 t227 t230 false (wrap64 (x13_3 + 1)))) else (none)) else (none)) = some r := by rw [if_neg (show ¬ (false = true) by decide)] at H; exact H
                        clear H
                        have H := H1
                        clear H1
                        by_cases c37 : 0 ≤ x13_3
                        · rw [if_pos c37] at H
                          have c37b0 : decide (0 ≤ x13_3) = true := decide_eq_true c37
                          clear c37
                          by_cases c38 : x13_3 < (t227.length : Int)
                          · rw [if_pos c38] at H
                            have c38b0 : decide (x13_3 < (t227.length : Int)) = true := decide_eq_true c38
                            clear c38
                            by_cases c39 : (!(((rd_T34 t227 x13_3).f0) == ((rd_T34 l0 x13_3).f0)) || (!(((rd_T34 t227 x13_3).f1) == ((rd_T34 l0 x13_3).f1)) || (!(((rd_T34 t227 x13_3).f2) == ((rd_T34 l0 x13_3).f2)) || ((!((((rd_T34 t227 x13_3).f3.f0).toList) == (((rd_T34 l0 x13_3).f3.f0).toList)) || (!(((rd_T34 t227 x13_3).f3.f1) == ((rd_T34 l0 x13_3).f3.f1)))))))) = true
                            · rw [if_pos c39] at H
                              exact absurd H (by simp)
                            · rw [if_neg c39] at H
                              have c39b0 : (!(((rd_T34 t227 x13_3).f0) == ((rd_T34 l0 x13_3).f0)) || (!(((rd_T34 t227 x13_3).f1) == ((rd_T34 l0 x13_3).f1)) || (!(((rd_T34 t227 x13_3).f2) == ((rd_T34 l0 x13_3).f2)) || ((!((((rd_T34 t227 x13_3).f3.f0).toList) == (((rd_T34 l0 x13_3).f3.f0).toList)) || (!(((rd_T34 t227 x13_3).f3.f1) == ((rd_T34 l0 x13_3).f3.f1)))))))) = false := by simpa using c39
                              clear c39
                              have H' := Aside0.mk H
                              clear H
                              obtain ⟨Ao40, co40, eo40⟩ := Kd.V_slice HO_10.out
                              subst eo40
                              have p234 : 0 ≤ (x13_3 : Int) := of_decide_eq_true (by first | (with_reducible assumption) | assumption)
                              have q234 : x13_3 < (t227.length : Int) := of_decide_eq_true (by first | (with_reducible assumption) | assumption)
                              obtain ⟨ad234, e234, hx234_0, hx234_1, hx234_2, hx234_3, hx234_4⟩ := at_T34 (Kd.V_reads' HO_10.out).2.2 x13_3 p234 q234
                              cases e234
                              replace p234 := eq_true p234
                              replace q234 := eq_true q234
                              have p235 : 0 ≤ (x13_3 : Int) := of_decide_eq_true (by first | (with_reducible assumption) | assumption)
                              have q235 : x13_3 < (l0.length : Int) := of_decide_eq_true (by first | (with_reducible assumption) | assumption)
                              obtain ⟨ad235, e235, hx235_0, hx235_1, hx235_2, hx235_3, hx235_4⟩ := at_T34 HR0.out x13_3 p235 q235
                              cases e235
                              replace hx235_0 := (HB.out.cell (World.block_lt_of_cell? w _ hx235_0)).trans hx235_0
                              replace hx235_1 := (HB.out.cell (World.block_lt_of_cell? w _ hx235_1)).trans hx235_1
                              replace hx235_2 := (HB.out.cell (World.block_lt_of_cell? w _ hx235_2)).trans hx235_2
                              replace hx235_3 := (HB.out.cell (World.block_lt_of_cell? w _ hx235_3)).trans hx235_3
                              replace hx235_4 := (HB.out.cell (World.block_lt_of_cell? w _ hx235_4)).trans hx235_4
                              replace p235 := eq_true p235
                              replace q235 := eq_true q235
                              go_wp2
                              repeat (go_quiet (fail); try go_wp2)
                              go_roundg k3
                              case measure => have := HJ3.out; have := HJ15.out; have := HK3.out; omega
                              case rel => exact ⟨(wrap64 (x13_3 + 1)), (by first | rfl | (simp; done) | (simp [*]; done) | (simp [bne_nil_]; done)), H', ⟨by have := HJ3.out; have := HJ15.out; have := HK3.out; omega⟩, ⟨by (with_reducible repeat (first | apply Kd.V_alloc | apply Kd.V_drewN | apply Kd.V_drew)); exact HO_7.out⟩, ⟨by (with_reducible repeat (first | apply Kd.V_alloc | apply Kd.V_drewN | apply Kd.V_drew)); exact HO_9.out⟩, ⟨by (with_reducible repeat (first | apply Kd.V_alloc | apply Kd.V_drewN | apply Kd.V_drew)); exact HO_10.out⟩, ⟨by repeat (first | (with_reducible first | exact HB.out | apply below_alloc | apply pw_below_drewN | apply below_drew1) | exact HB.out)⟩⟩
                          · rw [if_neg c38] at H
                            exact absurd H (by simp)
                        · rw [if_neg c37] at H
                          exact absurd H (by simp)
                    · rw [if_neg c30] at H
                      have c30b0 : (x13_3 == a1) = false := beq_eq_false_iff_ne.mpr c30
                      have c30b1 : (x13_3 != a1) = true := bne_iff_ne.mpr c30
                      by_cases c41 : 0 ≤ x13_3
                      · rw [if_pos c41] at H
                        have c41b0 : decide (0 ≤ x13_3) = true := decide_eq_true c41
                        clear c41
                        by_cases c42 : x13_3 < (t218.length : Int)
                        · rw [if_pos c42] at H
                          have c42b0 : decide (x13_3 < (t218.length : Int)) = true := decide_eq_true c42
                          clear c42
                          by_cases c43 : (!(((rd_T34 t218 x13_3).f0) == ((rd_T34 l0 x13_3).f0)) || (!(((rd_T34 t218 x13_3).f1) == ((rd_T34 l0 x13_3).f1)) || (!(((rd_T34 t218 x13_3).f2) == ((rd_T34 l0 x13_3).f2)) || ((!((((rd_T34 t218 x13_3).f3.f0).toList) == (((rd_T34 l0 x13_3).f3.f0).toList)) || (!(((rd_T34 t218 x13_3).f3.f1) == ((rd_T34 l0 x13_3).f3.f1)))))))) = true
                          · rw [if_pos c43] at H
                            exact absurd H (by simp)
                          · rw [if_neg c43] at H
                            have c43b0 : (!(((rd_T34 t218 x13_3).f0) == ((rd_T34 l0 x13_3).f0)) || (!(((rd_T34 t218 x13_3).f1) == ((rd_T34 l0 x13_3).f1)) || (!(((rd_T34 t218 x13_3).f2) == ((rd_T34 l0 x13_3).f2)) || ((!((((rd_T34 t218 x13_3).f3.f0).toList) == (((rd_T34 l0 x13_3).f3.f0).toList)) || (!(((rd_T34 t218 x13_3).f3.f1) == ((rd_T34 l0 x13_3).f3.f1)))))))) = false := by simpa using c43
                            clear c43
                            by_cases c44 : x13_3 < (t224.length : Int)
                            · rw [if_pos c44] at H
                              have c44b0 : decide (x13_3 < (t224.length : Int)) = true := decide_eq_true c44
                              clear c44
                              by_cases c45 : (!(((rd_T34 t224 x13_3).f0) == ((rd_T34 l0 x13_3).f0)) || (!(((rd_T34 t224 x13_3).f1) == ((rd_T34 l0 x13_3).f1)) || (!(((rd_T34 t224 x13_3).f2) == ((rd_T34 l0 x13_3).f2)) || ((!((((rd_T34 t224 x13_3).f3.f0).toList) == (((rd_T34 l0 x13_3).f3.f0).toList)) || (!(((rd_T34 t224 x13_3).f3.f1) == ((rd_T34 l0 x13_3).f3.f1)))))))) = true
                              · rw [if_pos c45] at H
                                exact absurd H (by simp)
                              · rw [if_neg c45] at H
                                have c45b0 : (!(((rd_T34 t224 x13_3).f0) == ((rd_T34 l0 x13_3).f0)) || (!(((rd_T34 t224 x13_3).f1) == ((rd_T34 l0 x13_3).f1)) || (!(((rd_T34 t224 x13_3).f2) == ((rd_T34 l0 x13_3).f2)) || ((!((((rd_T34 t224 x13_3).f3.f0).toList) == (((rd_T34 l0 x13_3).f3.f0).toList)) || (!(((rd_T34 t224 x13_3).f3.f1) == ((rd_T34 l0 x13_3).f3.f1)))))))) = false := by simpa using c45
                                clear c45
                                by_cases c46 : t231 = true
                                · subst c46
                                  have H1 : (if x13_3 = t230 then (law22_ConnsOthers.l0 k3 l0 a1 t218 t224 t227 t230 true (wrap64 (x13_3 + 1))) else (if x13_3 < (t227.length : Int) then (if (!(((rd_T34 t227 x13_3).f0) == ((rd_T34 l0 x13_3).f0)) || (!(((rd_T34 t227 x13_3).f1) == ((rd_T34 l0 x13_3).f1)) || (!(((rd_T34 t227 x13_3).f2) == ((rd_T34 l0 x13_3).f2)) || ((!((((rd_T34 t227 x13_3).f3.f0).toList) == (((rd_T34 l0 x13_3).f3.f0).toList)) || (!(((rd_T34 t227 x13_3).f3.f1) == ((rd_T34 l0 x13_3).f3.f1)))))))) = true then (none) else (law22_ConnsOthers.l0 k3 l0 a1 t218 t224 t227 t230 true (wrap64 (x13_3 + 1)))) else (none))) = some r := by rw [if_pos rfl] at H; exact H
                                  clear H
                                  have H := H1
                                  clear H1
                                  by_cases c47 : x13_3 = t230
                                  · rw [if_pos c47] at H
                                    have c47b0 : (x13_3 == t230) = true := beq_iff_eq.mpr c47
                                    have c47b1 : (x13_3 != t230) = false := bne_eq_false_iff_eq.mpr c47
                                    clear c47
                                    have H' := Aside0.mk H
                                    clear H
                                    obtain ⟨Ao48, co48, eo48⟩ := Kd.V_slice HO_7.out
                                    subst eo48
                                    have p236 : 0 ≤ (x13_3 : Int) := of_decide_eq_true (by first | (with_reducible assumption) | assumption)
                                    have q236 : x13_3 < (t218.length : Int) := of_decide_eq_true (by first | (with_reducible assumption) | assumption)
                                    obtain ⟨ad236, e236, hx236_0, hx236_1, hx236_2, hx236_3, hx236_4⟩ := at_T34 (Kd.V_reads' HO_7.out).2.2 x13_3 p236 q236
                                    cases e236
                                    replace p236 := eq_true p236
                                    replace q236 := eq_true q236
                                    have p237 : 0 ≤ (x13_3 : Int) := of_decide_eq_true (by first | (with_reducible assumption) | assumption)
                                    have q237 : x13_3 < (l0.length : Int) := of_decide_eq_true (by first | (with_reducible assumption) | assumption)
                                    obtain ⟨ad237, e237, hx237_0, hx237_1, hx237_2, hx237_3, hx237_4⟩ := at_T34 HR0.out x13_3 p237 q237
                                    cases e237
                                    replace hx237_0 := (HB.out.cell (World.block_lt_of_cell? w _ hx237_0)).trans hx237_0
                                    replace hx237_1 := (HB.out.cell (World.block_lt_of_cell? w _ hx237_1)).trans hx237_1
                                    replace hx237_2 := (HB.out.cell (World.block_lt_of_cell? w _ hx237_2)).trans hx237_2
                                    replace hx237_3 := (HB.out.cell (World.block_lt_of_cell? w _ hx237_3)).trans hx237_3
                                    replace hx237_4 := (HB.out.cell (World.block_lt_of_cell? w _ hx237_4)).trans hx237_4
                                    replace p237 := eq_true p237
                                    replace q237 := eq_true q237
                                    obtain ⟨Ao49, co49, eo49⟩ := Kd.V_slice HO_9.out
                                    subst eo49
                                    have p238 : 0 ≤ (x13_3 : Int) := of_decide_eq_true (by first | (with_reducible assumption) | assumption)
                                    have q238 : x13_3 < (t224.length : Int) := of_decide_eq_true (by first | (with_reducible assumption) | assumption)
                                    obtain ⟨ad238, e238, hx238_0, hx238_1, hx238_2, hx238_3, hx238_4⟩ := at_T34 (Kd.V_reads' HO_9.out).2.2 x13_3 p238 q238
                                    cases e238
                                    replace p238 := eq_true p238
                                    replace q238 := eq_true q238
                                    have p239 : 0 ≤ (x13_3 : Int) := of_decide_eq_true (by first | (with_reducible assumption) | assumption)
                                    have q239 : x13_3 < (l0.length : Int) := of_decide_eq_true (by first | (with_reducible assumption) | assumption)
                                    obtain ⟨ad239, e239, hx239_0, hx239_1, hx239_2, hx239_3, hx239_4⟩ := at_T34 HR0.out x13_3 p239 q239
                                    obtain rfl : ad237 = ad239 := (by injection e239)
                                    replace hx239_0 := (HB.out.cell (World.block_lt_of_cell? w _ hx239_0)).trans hx239_0
                                    replace hx239_1 := (HB.out.cell (World.block_lt_of_cell? w _ hx239_1)).trans hx239_1
                                    replace hx239_2 := (HB.out.cell (World.block_lt_of_cell? w _ hx239_2)).trans hx239_2
                                    replace hx239_3 := (HB.out.cell (World.block_lt_of_cell? w _ hx239_3)).trans hx239_3
                                    replace hx239_4 := (HB.out.cell (World.block_lt_of_cell? w _ hx239_4)).trans hx239_4
                                    replace p239 := eq_true p239
                                    replace q239 := eq_true q239
                                    go_wp2
                                    repeat (go_quiet (fail); try go_wp2)
                                    go_roundg k3
                                    case measure => have := HJ3.out; have := HJ15.out; have := HK3.out; omega
                                    case rel => exact ⟨(wrap64 (x13_3 + 1)), (by first | rfl | (simp; done) | (simp [*]; done) | (simp [bne_nil_]; done)), H', ⟨by have := HJ3.out; have := HJ15.out; have := HK3.out; omega⟩, ⟨by (with_reducible repeat (first | apply Kd.V_alloc | apply Kd.V_drewN | apply Kd.V_drew)); exact HO_7.out⟩, ⟨by (with_reducible repeat (first | apply Kd.V_alloc | apply Kd.V_drewN | apply Kd.V_drew)); exact HO_9.out⟩, ⟨by (with_reducible repeat (first | apply Kd.V_alloc | apply Kd.V_drewN | apply Kd.V_drew)); exact HO_10.out⟩, ⟨by repeat (first | (with_reducible first | exact HB.out | apply below_alloc | apply pw_below_drewN | apply below_drew1) | exact HB.out)⟩⟩
                                  · rw [if_neg c47] at H
                                    have c47b0 : (x13_3 == t230) = false := beq_eq_false_iff_ne.mpr c47
                                    have c47b1 : (x13_3 != t230) = true := bne_iff_ne.mpr c47
                                    by_cases c50 : x13_3 < (t227.length : Int)
                                    · rw [if_pos c50] at H
                                      have c50b0 : decide (x13_3 < (t227.length : Int)) = true := decide_eq_true c50
                                      clear c50
                                      by_cases c51 : (!(((rd_T34 t227 x13_3).f0) == ((rd_T34 l0 x13_3).f0)) || (!(((rd_T34 t227 x13_3).f1) == ((rd_T34 l0 x13_3).f1)) || (!(((rd_T34 t227 x13_3).f2) == ((rd_T34 l0 x13_3).f2)) || ((!((((rd_T34 t227 x13_3).f3.f0).toList) == (((rd_T34 l0 x13_3).f3.f0).toList)) || (!(((rd_T34 t227 x13_3).f3.f1) == ((rd_T34 l0 x13_3).f3.f1)))))))) = true
                                      · rw [if_pos c51] at H
                                        exact absurd H (by simp)
                                      · rw [if_neg c51] at H
                                        have c51b0 : (!(((rd_T34 t227 x13_3).f0) == ((rd_T34 l0 x13_3).f0)) || (!(((rd_T34 t227 x13_3).f1) == ((rd_T34 l0 x13_3).f1)) || (!(((rd_T34 t227 x13_3).f2) == ((rd_T34 l0 x13_3).f2)) || ((!((((rd_T34 t227 x13_3).f3.f0).toList) == (((rd_T34 l0 x13_3).f3.f0).toList)) || (!(((rd_T34 t227 x13_3).f3.f1) == ((rd_T34 l0 x13_3).f3.f1)))))))) = false := by simpa using c51
                                        clear c51
                                        have H' := Aside0.mk H
                                        clear H
                                        obtain ⟨Ao52, co52, eo52⟩ := Kd.V_slice HO_7.out
                                        subst eo52
                                        have p236 : 0 ≤ (x13_3 : Int) := of_decide_eq_true (by first | (with_reducible assumption) | assumption)
                                        have q236 : x13_3 < (t218.length : Int) := of_decide_eq_true (by first | (with_reducible assumption) | assumption)
                                        obtain ⟨ad236, e236, hx236_0, hx236_1, hx236_2, hx236_3, hx236_4⟩ := at_T34 (Kd.V_reads' HO_7.out).2.2 x13_3 p236 q236
                                        cases e236
                                        replace p236 := eq_true p236
                                        replace q236 := eq_true q236
                                        have p237 : 0 ≤ (x13_3 : Int) := of_decide_eq_true (by first | (with_reducible assumption) | assumption)
                                        have q237 : x13_3 < (l0.length : Int) := of_decide_eq_true (by first | (with_reducible assumption) | assumption)
                                        obtain ⟨ad237, e237, hx237_0, hx237_1, hx237_2, hx237_3, hx237_4⟩ := at_T34 HR0.out x13_3 p237 q237
                                        cases e237
                                        replace hx237_0 := (HB.out.cell (World.block_lt_of_cell? w _ hx237_0)).trans hx237_0
                                        replace hx237_1 := (HB.out.cell (World.block_lt_of_cell? w _ hx237_1)).trans hx237_1
                                        replace hx237_2 := (HB.out.cell (World.block_lt_of_cell? w _ hx237_2)).trans hx237_2
                                        replace hx237_3 := (HB.out.cell (World.block_lt_of_cell? w _ hx237_3)).trans hx237_3
                                        replace hx237_4 := (HB.out.cell (World.block_lt_of_cell? w _ hx237_4)).trans hx237_4
                                        replace p237 := eq_true p237
                                        replace q237 := eq_true q237
                                        obtain ⟨Ao53, co53, eo53⟩ := Kd.V_slice HO_9.out
                                        subst eo53
                                        have p238 : 0 ≤ (x13_3 : Int) := of_decide_eq_true (by first | (with_reducible assumption) | assumption)
                                        have q238 : x13_3 < (t224.length : Int) := of_decide_eq_true (by first | (with_reducible assumption) | assumption)
                                        obtain ⟨ad238, e238, hx238_0, hx238_1, hx238_2, hx238_3, hx238_4⟩ := at_T34 (Kd.V_reads' HO_9.out).2.2 x13_3 p238 q238
                                        cases e238
                                        replace p238 := eq_true p238
                                        replace q238 := eq_true q238
                                        have p239 : 0 ≤ (x13_3 : Int) := of_decide_eq_true (by first | (with_reducible assumption) | assumption)
                                        have q239 : x13_3 < (l0.length : Int) := of_decide_eq_true (by first | (with_reducible assumption) | assumption)
                                        obtain ⟨ad239, e239, hx239_0, hx239_1, hx239_2, hx239_3, hx239_4⟩ := at_T34 HR0.out x13_3 p239 q239
                                        obtain rfl : ad237 = ad239 := (by injection e239)
                                        replace hx239_0 := (HB.out.cell (World.block_lt_of_cell? w _ hx239_0)).trans hx239_0
                                        replace hx239_1 := (HB.out.cell (World.block_lt_of_cell? w _ hx239_1)).trans hx239_1
                                        replace hx239_2 := (HB.out.cell (World.block_lt_of_cell? w _ hx239_2)).trans hx239_2
                                        replace hx239_3 := (HB.out.cell (World.block_lt_of_cell? w _ hx239_3)).trans hx239_3
                                        replace hx239_4 := (HB.out.cell (World.block_lt_of_cell? w _ hx239_4)).trans hx239_4
                                        replace p239 := eq_true p239
                                        replace q239 := eq_true q239
                                        obtain ⟨Ao54, co54, eo54⟩ := Kd.V_slice HO_10.out
                                        subst eo54
                                        have p240 : 0 ≤ (x13_3 : Int) := of_decide_eq_true (by first | (with_reducible assumption) | assumption)
                                        have q240 : x13_3 < (t227.length : Int) := of_decide_eq_true (by first | (with_reducible assumption) | assumption)
                                        obtain ⟨ad240, e240, hx240_0, hx240_1, hx240_2, hx240_3, hx240_4⟩ := at_T34 (Kd.V_reads' HO_10.out).2.2 x13_3 p240 q240
                                        cases e240
                                        replace p240 := eq_true p240
                                        replace q240 := eq_true q240
                                        have p241 : 0 ≤ (x13_3 : Int) := of_decide_eq_true (by first | (with_reducible assumption) | assumption)
                                        have q241 : x13_3 < (l0.length : Int) := of_decide_eq_true (by first | (with_reducible assumption) | assumption)
                                        obtain ⟨ad241, e241, hx241_0, hx241_1, hx241_2, hx241_3, hx241_4⟩ := at_T34 HR0.out x13_3 p241 q241
                                        obtain rfl : ad237 = ad241 := (by injection e241)
                                        replace hx241_0 := (HB.out.cell (World.block_lt_of_cell? w _ hx241_0)).trans hx241_0
                                        replace hx241_1 := (HB.out.cell (World.block_lt_of_cell? w _ hx241_1)).trans hx241_1
                                        replace hx241_2 := (HB.out.cell (World.block_lt_of_cell? w _ hx241_2)).trans hx241_2
                                        replace hx241_3 := (HB.out.cell (World.block_lt_of_cell? w _ hx241_3)).trans hx241_3
                                        replace hx241_4 := (HB.out.cell (World.block_lt_of_cell? w _ hx241_4)).trans hx241_4
                                        replace p241 := eq_true p241
                                        replace q241 := eq_true q241
                                        go_wp2
                                        repeat (go_quiet (fail); try go_wp2)
                                        go_roundg k3
                                        case measure => have := HJ3.out; have := HJ15.out; have := HK3.out; omega
                                        case rel => exact ⟨(wrap64 (x13_3 + 1)), (by first | rfl | (simp; done) | (simp [*]; done) | (simp [bne_nil_]; done)), H', ⟨by have := HJ3.out; have := HJ15.out; have := HK3.out; omega⟩, ⟨by (with_reducible repeat (first | apply Kd.V_alloc | apply Kd.V_drewN | apply Kd.V_drew)); exact HO_7.out⟩, ⟨by (with_reducible repeat (first | apply Kd.V_alloc | apply Kd.V_drewN | apply Kd.V_drew)); exact HO_9.out⟩, ⟨by (with_reducible repeat (first | apply Kd.V_alloc | apply Kd.V_drewN | apply Kd.V_drew)); exact HO_10.out⟩, ⟨by repeat (first | (with_reducible first | exact HB.out | apply below_alloc | apply pw_below_drewN | apply below_drew1) | exact HB.out)⟩⟩
                                    · rw [if_neg c50] at H
                                      exact absurd H (by simp)
                                · replace c46 := Bool.eq_false_iff.mpr c46
                                  subst c46
                                  have H1 : (if x13_3 < (t227.length : Int) then (if (!(((rd_T34 t227 x13_3).f0) == ((rd_T34 l0 x13_3).f0)) || (!(((rd_T34 t227 x13_3).f1) == ((rd_T34 l0 x13_3).f1)) || (!(((rd_T34 t227 x13_3).f2) == ((rd_T34 l0 x13_3).f2)) || ((!((((rd_T34 t227 x13_3).f3.f0).toList) == (((rd_T34 l0 x13_3).f3.f0).toList)) || (!(((rd_T34 t227 x13_3).f3.f1) == ((rd_T34 l0 x13_3).f3.f1)))))))) = true then (none) else (law22_ConnsOthers.l0 k3 l0 a1 t218 t224 t227 t230 false (wrap64 (x13_3 + 1)))) else (none)) = some r := by rw [if_neg (show ¬ (false = true) by decide)] at H; exact H
                                  clear H
                                  have H := H1
                                  clear H1
                                  by_cases c55 : x13_3 < (t227.length : Int)
                                  · rw [if_pos c55] at H
                                    have c55b0 : decide (x13_3 < (t227.length : Int)) = true := decide_eq_true c55
                                    clear c55
                                    by_cases c56 : (!(((rd_T34 t227 x13_3).f0) == ((rd_T34 l0 x13_3).f0)) || (!(((rd_T34 t227 x13_3).f1) == ((rd_T34 l0 x13_3).f1)) || (!(((rd_T34 t227 x13_3).f2) == ((rd_T34 l0 x13_3).f2)) || ((!((((rd_T34 t227 x13_3).f3.f0).toList) == (((rd_T34 l0 x13_3).f3.f0).toList)) || (!(((rd_T34 t227 x13_3).f3.f1) == ((rd_T34 l0 x13_3).f3.f1)))))))) = true
                                    · rw [if_pos c56] at H
                                      exact absurd H (by simp)
                                    · rw [if_neg c56] at H
                                      have c56b0 : (!(((rd_T34 t227 x13_3).f0) == ((rd_T34 l0 x13_3).f0)) || (!(((rd_T34 t227 x13_3).f1) == ((rd_T34 l0 x13_3).f1)) || (!(((rd_T34 t227 x13_3).f2) == ((rd_T34 l0 x13_3).f2)) || ((!((((rd_T34 t227 x13_3).f3.f0).toList) == (((rd_T34 l0 x13_3).f3.f0).toList)) || (!(((rd_T34 t227 x13_3).f3.f1) == ((rd_T34 l0 x13_3).f3.f1)))))))) = false := by simpa using c56
                                      clear c56
                                      have H' := Aside0.mk H
                                      clear H
                                      obtain ⟨Ao57, co57, eo57⟩ := Kd.V_slice HO_7.out
                                      subst eo57
                                      have p236 : 0 ≤ (x13_3 : Int) := of_decide_eq_true (by first | (with_reducible assumption) | assumption)
                                      have q236 : x13_3 < (t218.length : Int) := of_decide_eq_true (by first | (with_reducible assumption) | assumption)
                                      obtain ⟨ad236, e236, hx236_0, hx236_1, hx236_2, hx236_3, hx236_4⟩ := at_T34 (Kd.V_reads' HO_7.out).2.2 x13_3 p236 q236
                                      cases e236
                                      replace p236 := eq_true p236
                                      replace q236 := eq_true q236
                                      have p237 : 0 ≤ (x13_3 : Int) := of_decide_eq_true (by first | (with_reducible assumption) | assumption)
                                      have q237 : x13_3 < (l0.length : Int) := of_decide_eq_true (by first | (with_reducible assumption) | assumption)
                                      obtain ⟨ad237, e237, hx237_0, hx237_1, hx237_2, hx237_3, hx237_4⟩ := at_T34 HR0.out x13_3 p237 q237
                                      cases e237
                                      replace hx237_0 := (HB.out.cell (World.block_lt_of_cell? w _ hx237_0)).trans hx237_0
                                      replace hx237_1 := (HB.out.cell (World.block_lt_of_cell? w _ hx237_1)).trans hx237_1
                                      replace hx237_2 := (HB.out.cell (World.block_lt_of_cell? w _ hx237_2)).trans hx237_2
                                      replace hx237_3 := (HB.out.cell (World.block_lt_of_cell? w _ hx237_3)).trans hx237_3
                                      replace hx237_4 := (HB.out.cell (World.block_lt_of_cell? w _ hx237_4)).trans hx237_4
                                      replace p237 := eq_true p237
                                      replace q237 := eq_true q237
                                      obtain ⟨Ao58, co58, eo58⟩ := Kd.V_slice HO_9.out
                                      subst eo58
                                      have p238 : 0 ≤ (x13_3 : Int) := of_decide_eq_true (by first | (with_reducible assumption) | assumption)
                                      have q238 : x13_3 < (t224.length : Int) := of_decide_eq_true (by first | (with_reducible assumption) | assumption)
                                      obtain ⟨ad238, e238, hx238_0, hx238_1, hx238_2, hx238_3, hx238_4⟩ := at_T34 (Kd.V_reads' HO_9.out).2.2 x13_3 p238 q238
                                      cases e238
                                      replace p238 := eq_true p238
                                      replace q238 := eq_true q238
                                      have p239 : 0 ≤ (x13_3 : Int) := of_decide_eq_true (by first | (with_reducible assumption) | assumption)
                                      have q239 : x13_3 < (l0.length : Int) := of_decide_eq_true (by first | (with_reducible assumption) | assumption)
                                      obtain ⟨ad239, e239, hx239_0, hx239_1, hx239_2, hx239_3, hx239_4⟩ := at_T34 HR0.out x13_3 p239 q239
                                      obtain rfl : ad237 = ad239 := (by injection e239)
                                      replace hx239_0 := (HB.out.cell (World.block_lt_of_cell? w _ hx239_0)).trans hx239_0
                                      replace hx239_1 := (HB.out.cell (World.block_lt_of_cell? w _ hx239_1)).trans hx239_1
                                      replace hx239_2 := (HB.out.cell (World.block_lt_of_cell? w _ hx239_2)).trans hx239_2
                                      replace hx239_3 := (HB.out.cell (World.block_lt_of_cell? w _ hx239_3)).trans hx239_3
                                      replace hx239_4 := (HB.out.cell (World.block_lt_of_cell? w _ hx239_4)).trans hx239_4
                                      replace p239 := eq_true p239
                                      replace q239 := eq_true q239
                                      obtain ⟨Ao59, co59, eo59⟩ := Kd.V_slice HO_10.out
                                      subst eo59
                                      have p242 : 0 ≤ (x13_3 : Int) := of_decide_eq_true (by first | (with_reducible assumption) | assumption)
                                      have q242 : x13_3 < (t227.length : Int) := of_decide_eq_true (by first | (with_reducible assumption) | assumption)
                                      obtain ⟨ad242, e242, hx242_0, hx242_1, hx242_2, hx242_3, hx242_4⟩ := at_T34 (Kd.V_reads' HO_10.out).2.2 x13_3 p242 q242
                                      cases e242
                                      replace p242 := eq_true p242
                                      replace q242 := eq_true q242
                                      have p243 : 0 ≤ (x13_3 : Int) := of_decide_eq_true (by first | (with_reducible assumption) | assumption)
                                      have q243 : x13_3 < (l0.length : Int) := of_decide_eq_true (by first | (with_reducible assumption) | assumption)
                                      obtain ⟨ad243, e243, hx243_0, hx243_1, hx243_2, hx243_3, hx243_4⟩ := at_T34 HR0.out x13_3 p243 q243
                                      obtain rfl : ad237 = ad243 := (by injection e243)
                                      replace hx243_0 := (HB.out.cell (World.block_lt_of_cell? w _ hx243_0)).trans hx243_0
                                      replace hx243_1 := (HB.out.cell (World.block_lt_of_cell? w _ hx243_1)).trans hx243_1
                                      replace hx243_2 := (HB.out.cell (World.block_lt_of_cell? w _ hx243_2)).trans hx243_2
                                      replace hx243_3 := (HB.out.cell (World.block_lt_of_cell? w _ hx243_3)).trans hx243_3
                                      replace hx243_4 := (HB.out.cell (World.block_lt_of_cell? w _ hx243_4)).trans hx243_4
                                      replace p243 := eq_true p243
                                      replace q243 := eq_true q243
                                      go_wp2
                                      repeat (go_quiet (fail); try go_wp2)
                                      go_roundg k3
                                      case measure => have := HJ3.out; have := HJ15.out; have := HK3.out; omega
                                      case rel => exact ⟨(wrap64 (x13_3 + 1)), (by first | rfl | (simp; done) | (simp [*]; done) | (simp [bne_nil_]; done)), H', ⟨by have := HJ3.out; have := HJ15.out; have := HK3.out; omega⟩, ⟨by (with_reducible repeat (first | apply Kd.V_alloc | apply Kd.V_drewN | apply Kd.V_drew)); exact HO_7.out⟩, ⟨by (with_reducible repeat (first | apply Kd.V_alloc | apply Kd.V_drewN | apply Kd.V_drew)); exact HO_9.out⟩, ⟨by (with_reducible repeat (first | apply Kd.V_alloc | apply Kd.V_drewN | apply Kd.V_drew)); exact HO_10.out⟩, ⟨by repeat (first | (with_reducible first | exact HB.out | apply below_alloc | apply pw_below_drewN | apply below_drew1) | exact HB.out)⟩⟩
                                  · rw [if_neg c55] at H
                                    exact absurd H (by simp)
                            · rw [if_neg c44] at H
                              exact absurd H (by simp)
                        · rw [if_neg c42] at H
                          exact absurd H (by simp)
                      · rw [if_neg c41] at H
                        exact absurd H (by simp)
                  · rw [if_neg c29] at H
                    have c29b0 : decide (x13_3 < (l0.length : Int)) = false := decide_eq_false c29
                    clear c29
                    replace H := Option.bind_eq_some_iff.mp H
                    obtain ⟨t244, A600, H⟩ := H
                    replace H : (if t244 = true then ((conns_Right.f k3 t218).bind fun t245 => (if t245 = true then ((conns_Right.f k3 t224).bind fun t246 => (if t246 = true then ((conns_Right.f k3 t227).bind fun t247 => (some t247)) else (none))) else (none))) else (none)) = some r := H
                    have A60 := Aside0.mk A600
                    clear A600
                    by_cases c61 : t244 = true
                    · subst c61
                      have H1 : ((conns_Right.f k3 t218).bind fun t245 => (if t245 = true then ((conns_Right.f k3 t224).bind fun t246 => (if t246 = true then ((conns_Right.f k3 t227).bind fun t247 => (some t247)) else (none))) else (none))) = some r := by rw [if_pos rfl] at H; exact H
                      clear H
                      have H := H1
                      clear H1
                      replace H := Option.bind_eq_some_iff.mp H
                      obtain ⟨t245, A620, H⟩ := H
                      replace H : (if t245 = true then ((conns_Right.f k3 t224).bind fun t246 => (if t246 = true then ((conns_Right.f k3 t227).bind fun t247 => (some t247)) else (none))) else (none)) = some r := H
                      have A62 := Aside0.mk A620
                      clear A620
                      by_cases c63 : t245 = true
                      · subst c63
                        have H1 : ((conns_Right.f k3 t224).bind fun t246 => (if t246 = true then ((conns_Right.f k3 t227).bind fun t247 => (some t247)) else (none))) = some r := by rw [if_pos rfl] at H; exact H
                        clear H
                        have H := H1
                        clear H1
                        replace H := Option.bind_eq_some_iff.mp H
                        obtain ⟨t246, A640, H⟩ := H
                        replace H : (if t246 = true then ((conns_Right.f k3 t227).bind fun t247 => (some t247)) else (none)) = some r := H
                        have A64 := Aside0.mk A640
                        clear A640
                        by_cases c65 : t246 = true
                        · subst c65
                          have H1 : ((conns_Right.f k3 t227).bind fun t247 => (some t247)) = some r := by rw [if_pos rfl] at H; exact H
                          clear H
                          have H := H1
                          clear H1
                          replace H := Option.bind_eq_some_iff.mp H
                          obtain ⟨t247, A660, H⟩ := H
                          replace H : (some t247) = some r := H
                          have A66 := Aside0.mk A660
                          clear A660
                          obtain rfl := Option.some.inj H
                          go_wp2_with (first | (go_at_call 5; (with_reducible refine (law22_awake.calls k3  true _ A60.out).mono ?_); rintro e w67 ⟨rfl, hb⟩; have n0_ := Aside0.mk (Kd.V_below (by (with_reducible repeat (first | apply Kd.V_alloc | apply Kd.V_drewN | apply Kd.V_drew)); exact HO_7.out) hb); have n1_ := Aside0.mk (Kd.V_below (by (with_reducible repeat (first | apply Kd.V_alloc | apply Kd.V_drewN | apply Kd.V_drew)); exact HO_9.out) hb); have n2_ := Aside0.mk (Kd.V_below (by (with_reducible repeat (first | apply Kd.V_alloc | apply Kd.V_drewN | apply Kd.V_drew)); exact HO_10.out) hb); have n3_ := Aside0.mk (below_step (by repeat (first | (with_reducible first | exact HB.out | apply below_alloc | apply pw_below_drewN | apply below_drew1) | exact HB.out)) hb); clear HO_7; clear HO_9; clear HO_10; clear HB; have HO_7 := n0_; have HO_9 := n1_; have HO_10 := n2_; have HB := n3_; clear n0_ n1_ n2_ n3_; (try clear hb); (try clear hb2); (try clear hk); (try clear hi); obtain ⟨Ao68, co68, eo68⟩ := Kd.V_slice HO_7.out; subst eo68) | (go_at_call 10; (with_reducible refine (conns_Right.calls k3 _ _ t218 true _ ?side1 ?side2 A62.out).mono ?_); (case side1 => repeat (first | exact (Kd.V_reads' HO_7.out).2.2 | (with_reducible refine Kd.C_alloc ?_ _) | (with_reducible refine Kd.C_drewN ?_ _) | (with_reducible refine Kd.C_drew ?_))); (case side2 => exact (Kd.V_reads' HO_7.out).2.1); rintro e w69 ⟨rfl, hb⟩; have n0_ := Aside0.mk (Kd.V_below (by (with_reducible repeat (first | apply Kd.V_alloc | apply Kd.V_drewN | apply Kd.V_drew)); exact HO_7.out) hb); have n1_ := Aside0.mk (Kd.V_below (by (with_reducible repeat (first | apply Kd.V_alloc | apply Kd.V_drewN | apply Kd.V_drew)); exact HO_9.out) hb); have n2_ := Aside0.mk (Kd.V_below (by (with_reducible repeat (first | apply Kd.V_alloc | apply Kd.V_drewN | apply Kd.V_drew)); exact HO_10.out) hb); have n3_ := Aside0.mk (below_step (by repeat (first | (with_reducible first | exact HB.out | apply below_alloc | apply pw_below_drewN | apply below_drew1) | exact HB.out)) hb); clear HO_7; clear HO_9; clear HO_10; clear HB; have HO_7 := n0_; have HO_9 := n1_; have HO_10 := n2_; have HB := n3_; clear n0_ n1_ n2_ n3_; (try clear hb); (try clear hb2); (try clear hk); (try clear hi); obtain ⟨Ao70, co70, eo70⟩ := Kd.V_slice HO_9.out; subst eo70) | (go_at_call 10; (with_reducible refine (conns_Right.calls k3 _ _ t224 true _ ?side1 ?side2 A64.out).mono ?_); (case side1 => repeat (first | exact (Kd.V_reads' HO_9.out).2.2 | (with_reducible refine Kd.C_alloc ?_ _) | (with_reducible refine Kd.C_drewN ?_ _) | (with_reducible refine Kd.C_drew ?_))); (case side2 => exact (Kd.V_reads' HO_9.out).2.1); rintro e w71 ⟨rfl, hb⟩; have n0_ := Aside0.mk (Kd.V_below (by (with_reducible repeat (first | apply Kd.V_alloc | apply Kd.V_drewN | apply Kd.V_drew)); exact HO_7.out) hb); have n1_ := Aside0.mk (Kd.V_below (by (with_reducible repeat (first | apply Kd.V_alloc | apply Kd.V_drewN | apply Kd.V_drew)); exact HO_9.out) hb); have n2_ := Aside0.mk (Kd.V_below (by (with_reducible repeat (first | apply Kd.V_alloc | apply Kd.V_drewN | apply Kd.V_drew)); exact HO_10.out) hb); have n3_ := Aside0.mk (below_step (by repeat (first | (with_reducible first | exact HB.out | apply below_alloc | apply pw_below_drewN | apply below_drew1) | exact HB.out)) hb); clear HO_7; clear HO_9; clear HO_10; clear HB; have HO_7 := n0_; have HO_9 := n1_; have HO_10 := n2_; have HB := n3_; clear n0_ n1_ n2_ n3_; (try clear hb); (try clear hb2); (try clear hk); (try clear hi); obtain ⟨Ao72, co72, eo72⟩ := Kd.V_slice HO_10.out; subst eo72) | (go_at_call 10; (with_reducible refine (conns_Right.calls k3 _ _ t227 t247 _ ?side1 ?side2 A66.out).mono ?_); (case side1 => repeat (first | exact (Kd.V_reads' HO_10.out).2.2 | (with_reducible refine Kd.C_alloc ?_ _) | (with_reducible refine Kd.C_drewN ?_ _) | (with_reducible refine Kd.C_drew ?_))); (case side2 => exact (Kd.V_reads' HO_10.out).2.1); rintro e w73 ⟨rfl, hb⟩; have n0_ := Aside0.mk (Kd.V_below (by (with_reducible repeat (first | apply Kd.V_alloc | apply Kd.V_drewN | apply Kd.V_drew)); exact HO_7.out) hb); have n1_ := Aside0.mk (Kd.V_below (by (with_reducible repeat (first | apply Kd.V_alloc | apply Kd.V_drewN | apply Kd.V_drew)); exact HO_9.out) hb); have n2_ := Aside0.mk (Kd.V_below (by (with_reducible repeat (first | apply Kd.V_alloc | apply Kd.V_drewN | apply Kd.V_drew)); exact HO_10.out) hb); have n3_ := Aside0.mk (below_step (by repeat (first | (with_reducible first | exact HB.out | apply below_alloc | apply pw_below_drewN | apply below_drew1) | exact HB.out)) hb); clear HO_7; clear HO_9; clear HO_10; clear HB; have HO_7 := n0_; have HO_9 := n1_; have HO_10 := n2_; have HB := n3_; clear n0_ n1_ n2_ n3_; (try clear hb); (try clear hb2); (try clear hk); (try clear hi)))
                          repeat (go_quiet (first | (go_at_call 5; (with_reducible refine (law22_awake.calls k3  true _ A60.out).mono ?_); rintro e w67 ⟨rfl, hb⟩; have n0_ := Aside0.mk (Kd.V_below (by (with_reducible repeat (first | apply Kd.V_alloc | apply Kd.V_drewN | apply Kd.V_drew)); exact HO_7.out) hb); have n1_ := Aside0.mk (Kd.V_below (by (with_reducible repeat (first | apply Kd.V_alloc | apply Kd.V_drewN | apply Kd.V_drew)); exact HO_9.out) hb); have n2_ := Aside0.mk (Kd.V_below (by (with_reducible repeat (first | apply Kd.V_alloc | apply Kd.V_drewN | apply Kd.V_drew)); exact HO_10.out) hb); have n3_ := Aside0.mk (below_step (by repeat (first | (with_reducible first | exact HB.out | apply below_alloc | apply pw_below_drewN | apply below_drew1) | exact HB.out)) hb); clear HO_7; clear HO_9; clear HO_10; clear HB; have HO_7 := n0_; have HO_9 := n1_; have HO_10 := n2_; have HB := n3_; clear n0_ n1_ n2_ n3_; (try clear hb); (try clear hb2); (try clear hk); (try clear hi); obtain ⟨Ao68, co68, eo68⟩ := Kd.V_slice HO_7.out; subst eo68) | (go_at_call 10; (with_reducible refine (conns_Right.calls k3 _ _ t218 true _ ?side1 ?side2 A62.out).mono ?_); (case side1 => repeat (first | exact (Kd.V_reads' HO_7.out).2.2 | (with_reducible refine Kd.C_alloc ?_ _) | (with_reducible refine Kd.C_drewN ?_ _) | (with_reducible refine Kd.C_drew ?_))); (case side2 => exact (Kd.V_reads' HO_7.out).2.1); rintro e w69 ⟨rfl, hb⟩; have n0_ := Aside0.mk (Kd.V_below (by (with_reducible repeat (first | apply Kd.V_alloc | apply Kd.V_drewN | apply Kd.V_drew)); exact HO_7.out) hb); have n1_ := Aside0.mk (Kd.V_below (by (with_reducible repeat (first | apply Kd.V_alloc | apply Kd.V_drewN | apply Kd.V_drew)); exact HO_9.out) hb); have n2_ := Aside0.mk (Kd.V_below (by (with_reducible repeat (first | apply Kd.V_alloc | apply Kd.V_drewN | apply Kd.V_drew)); exact HO_10.out) hb); have n3_ := Aside0.mk (below_step (by repeat (first | (with_reducible first | exact HB.out | apply below_alloc | apply pw_below_drewN | apply below_drew1) | exact HB.out)) hb); clear HO_7; clear HO_9; clear HO_10; clear HB; have HO_7 := n0_; have HO_9 := n1_; have HO_10 := n2_; have HB := n3_; clear n0_ n1_ n2_ n3_; (try clear hb); (try clear hb2); (try clear hk); (try clear hi); obtain ⟨Ao70, co70, eo70⟩ := Kd.V_slice HO_9.out; subst eo70) | (go_at_call 10; (with_reducible refine (conns_Right.calls k3 _ _ t224 true _ ?side1 ?side2 A64.out).mono ?_); (case side1 => repeat (first | exact (Kd.V_reads' HO_9.out).2.2 | (with_reducible refine Kd.C_alloc ?_ _) | (with_reducible refine Kd.C_drewN ?_ _) | (with_reducible refine Kd.C_drew ?_))); (case side2 => exact (Kd.V_reads' HO_9.out).2.1); rintro e w71 ⟨rfl, hb⟩; have n0_ := Aside0.mk (Kd.V_below (by (with_reducible repeat (first | apply Kd.V_alloc | apply Kd.V_drewN | apply Kd.V_drew)); exact HO_7.out) hb); have n1_ := Aside0.mk (Kd.V_below (by (with_reducible repeat (first | apply Kd.V_alloc | apply Kd.V_drewN | apply Kd.V_drew)); exact HO_9.out) hb); have n2_ := Aside0.mk (Kd.V_below (by (with_reducible repeat (first | apply Kd.V_alloc | apply Kd.V_drewN | apply Kd.V_drew)); exact HO_10.out) hb); have n3_ := Aside0.mk (below_step (by repeat (first | (with_reducible first | exact HB.out | apply below_alloc | apply pw_below_drewN | apply below_drew1) | exact HB.out)) hb); clear HO_7; clear HO_9; clear HO_10; clear HB; have HO_7 := n0_; have HO_9 := n1_; have HO_10 := n2_; have HB := n3_; clear n0_ n1_ n2_ n3_; (try clear hb); (try clear hb2); (try clear hk); (try clear hi); obtain ⟨Ao72, co72, eo72⟩ := Kd.V_slice HO_10.out; subst eo72) | (go_at_call 10; (with_reducible refine (conns_Right.calls k3 _ _ t227 t247 _ ?side1 ?side2 A66.out).mono ?_); (case side1 => repeat (first | exact (Kd.V_reads' HO_10.out).2.2 | (with_reducible refine Kd.C_alloc ?_ _) | (with_reducible refine Kd.C_drewN ?_ _) | (with_reducible refine Kd.C_drew ?_))); (case side2 => exact (Kd.V_reads' HO_10.out).2.1); rintro e w73 ⟨rfl, hb⟩; have n0_ := Aside0.mk (Kd.V_below (by (with_reducible repeat (first | apply Kd.V_alloc | apply Kd.V_drewN | apply Kd.V_drew)); exact HO_7.out) hb); have n1_ := Aside0.mk (Kd.V_below (by (with_reducible repeat (first | apply Kd.V_alloc | apply Kd.V_drewN | apply Kd.V_drew)); exact HO_9.out) hb); have n2_ := Aside0.mk (Kd.V_below (by (with_reducible repeat (first | apply Kd.V_alloc | apply Kd.V_drewN | apply Kd.V_drew)); exact HO_10.out) hb); have n3_ := Aside0.mk (below_step (by repeat (first | (with_reducible first | exact HB.out | apply below_alloc | apply pw_below_drewN | apply below_drew1) | exact HB.out)) hb); clear HO_7; clear HO_9; clear HO_10; clear HB; have HO_7 := n0_; have HO_9 := n1_; have HO_10 := n2_; have HB := n3_; clear n0_ n1_ n2_ n3_; (try clear hb); (try clear hb2); (try clear hk); (try clear hi))); try go_wp2_with (first | (go_at_call 5; (with_reducible refine (law22_awake.calls k3  true _ A60.out).mono ?_); rintro e w67 ⟨rfl, hb⟩; have n0_ := Aside0.mk (Kd.V_below (by (with_reducible repeat (first | apply Kd.V_alloc | apply Kd.V_drewN | apply Kd.V_drew)); exact HO_7.out) hb); have n1_ := Aside0.mk (Kd.V_below (by (with_reducible repeat (first | apply Kd.V_alloc | apply Kd.V_drewN | apply Kd.V_drew)); exact HO_9.out) hb); have n2_ := Aside0.mk (Kd.V_below (by (with_reducible repeat (first | apply Kd.V_alloc | apply Kd.V_drewN | apply Kd.V_drew)); exact HO_10.out) hb); have n3_ := Aside0.mk (below_step (by repeat (first | (with_reducible first | exact HB.out | apply below_alloc | apply pw_below_drewN | apply below_drew1) | exact HB.out)) hb); clear HO_7; clear HO_9; clear HO_10; clear HB; have HO_7 := n0_; have HO_9 := n1_; have HO_10 := n2_; have HB := n3_; clear n0_ n1_ n2_ n3_; (try clear hb); (try clear hb2); (try clear hk); (try clear hi); obtain ⟨Ao68, co68, eo68⟩ := Kd.V_slice HO_7.out; subst eo68) | (go_at_call 10; (with_reducible refine (conns_Right.calls k3 _ _ t218 true _ ?side1 ?side2 A62.out).mono ?_); (case side1 => repeat (first | exact (Kd.V_reads' HO_7.out).2.2 | (with_reducible refine Kd.C_alloc ?_ _) | (with_reducible refine Kd.C_drewN ?_ _) | (with_reducible refine Kd.C_drew ?_))); (case side2 => exact (Kd.V_reads' HO_7.out).2.1); rintro e w69 ⟨rfl, hb⟩; have n0_ := Aside0.mk (Kd.V_below (by (with_reducible repeat (first | apply Kd.V_alloc | apply Kd.V_drewN | apply Kd.V_drew)); exact HO_7.out) hb); have n1_ := Aside0.mk (Kd.V_below (by (with_reducible repeat (first | apply Kd.V_alloc | apply Kd.V_drewN | apply Kd.V_drew)); exact HO_9.out) hb); have n2_ := Aside0.mk (Kd.V_below (by (with_reducible repeat (first | apply Kd.V_alloc | apply Kd.V_drewN | apply Kd.V_drew)); exact HO_10.out) hb); have n3_ := Aside0.mk (below_step (by repeat (first | (with_reducible first | exact HB.out | apply below_alloc | apply pw_below_drewN | apply below_drew1) | exact HB.out)) hb); clear HO_7; clear HO_9; clear HO_10; clear HB; have HO_7 := n0_; have HO_9 := n1_; have HO_10 := n2_; have HB := n3_; clear n0_ n1_ n2_ n3_; (try clear hb); (try clear hb2); (try clear hk); (try clear hi); obtain ⟨Ao70, co70, eo70⟩ := Kd.V_slice HO_9.out; subst eo70) | (go_at_call 10; (with_reducible refine (conns_Right.calls k3 _ _ t224 true _ ?side1 ?side2 A64.out).mono ?_); (case side1 => repeat (first | exact (Kd.V_reads' HO_9.out).2.2 | (with_reducible refine Kd.C_alloc ?_ _) | (with_reducible refine Kd.C_drewN ?_ _) | (with_reducible refine Kd.C_drew ?_))); (case side2 => exact (Kd.V_reads' HO_9.out).2.1); rintro e w71 ⟨rfl, hb⟩; have n0_ := Aside0.mk (Kd.V_below (by (with_reducible repeat (first | apply Kd.V_alloc | apply Kd.V_drewN | apply Kd.V_drew)); exact HO_7.out) hb); have n1_ := Aside0.mk (Kd.V_below (by (with_reducible repeat (first | apply Kd.V_alloc | apply Kd.V_drewN | apply Kd.V_drew)); exact HO_9.out) hb); have n2_ := Aside0.mk (Kd.V_below (by (with_reducible repeat (first | apply Kd.V_alloc | apply Kd.V_drewN | apply Kd.V_drew)); exact HO_10.out) hb); have n3_ := Aside0.mk (below_step (by repeat (first | (with_reducible first | exact HB.out | apply below_alloc | apply pw_below_drewN | apply below_drew1) | exact HB.out)) hb); clear HO_7; clear HO_9; clear HO_10; clear HB; have HO_7 := n0_; have HO_9 := n1_; have HO_10 := n2_; have HB := n3_; clear n0_ n1_ n2_ n3_; (try clear hb); (try clear hb2); (try clear hk); (try clear hi); obtain ⟨Ao72, co72, eo72⟩ := Kd.V_slice HO_10.out; subst eo72) | (go_at_call 10; (with_reducible refine (conns_Right.calls k3 _ _ t227 t247 _ ?side1 ?side2 A66.out).mono ?_); (case side1 => repeat (first | exact (Kd.V_reads' HO_10.out).2.2 | (with_reducible refine Kd.C_alloc ?_ _) | (with_reducible refine Kd.C_drewN ?_ _) | (with_reducible refine Kd.C_drew ?_))); (case side2 => exact (Kd.V_reads' HO_10.out).2.1); rintro e w73 ⟨rfl, hb⟩; have n0_ := Aside0.mk (Kd.V_below (by (with_reducible repeat (first | apply Kd.V_alloc | apply Kd.V_drewN | apply Kd.V_drew)); exact HO_7.out) hb); have n1_ := Aside0.mk (Kd.V_below (by (with_reducible repeat (first | apply Kd.V_alloc | apply Kd.V_drewN | apply Kd.V_drew)); exact HO_9.out) hb); have n2_ := Aside0.mk (Kd.V_below (by (with_reducible repeat (first | apply Kd.V_alloc | apply Kd.V_drewN | apply Kd.V_drew)); exact HO_10.out) hb); have n3_ := Aside0.mk (below_step (by repeat (first | (with_reducible first | exact HB.out | apply below_alloc | apply pw_below_drewN | apply below_drew1) | exact HB.out)) hb); clear HO_7; clear HO_9; clear HO_10; clear HB; have HO_7 := n0_; have HO_9 := n1_; have HO_10 := n2_; have HB := n3_; clear n0_ n1_ n2_ n3_; (try clear hb); (try clear hb2); (try clear hk); (try clear hi))))
                          go_ret
                          exact ⟨by first | rfl | (simp [errW_none, errW_some] <;> rfl) | (simp [*, errW_none, errW_some] <;> rfl), by repeat (first | (with_reducible first | exact HB.out | apply below_alloc | apply pw_below_drewN | apply below_drew1) | exact HB.out)⟩
                        · replace c65 := Bool.eq_false_iff.mpr c65
                          subst c65
                          have H1 : (none) = some r := by rw [if_neg (show ¬ (false = true) by decide)] at H; exact H
                          clear H
                          have H := H1
                          clear H1
                          exact absurd H (by simp)
                      · replace c63 := Bool.eq_false_iff.mpr c63
                        subst c63
                        have H1 : (none) = some r := by rw [if_neg (show ¬ (false = true) by decide)] at H; exact H
                        clear H
                        have H := H1
                        clear H1
                        exact absurd H (by simp)
                    · replace c61 := Bool.eq_false_iff.mpr c61
                      subst c61
                      have H1 : (none) = some r := by rw [if_neg (show ¬ (false = true) by decide)] at H; exact H
                      clear H
                      have H := H1
                      clear H1
                      exact absurd H (by simp)

end Go.Proofs.Ytgffhdgfloimaaa.P

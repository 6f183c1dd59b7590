-- Written by a program of this session (wip/mkprint.py). Not trusted: Lean checks it.
import Derived.Test.YtgffhdgfloimaaaP0
import Derived.Test.YtgffhdgfloimaaaP3
import Derived.Test.YtgffhdgfloimaaaP4
namespace Go.Proofs.Ytgffhdgfloimaaa.P
open Go.RowKit Go.Proofs.YtgffhdgfloimaaaW.PrintWords Go.Proofs.YtgffhdgfloimaaaW.PrintLast Go.Proofs.YtgffhdgfloimaaaW.PrintMore
attribute [local go_sem] max2_int min2_int max_two min_two max_three min_three max_four min_four   -- for this text's walks alone
set_option linter.unusedVariables false
set_option linter.unusedSimpArgs false

/-! ### law22_ConnsPlaces: function 3 -/
mutual
def law22_ConnsPlaces.l0 : Nat → List Int → Int → List (S34) → List Bool → Int → Option (Bool)
  | 0, _, _, _, _, _ => none
  | k + 1, x0, x1, x5, x6, x7 => if x7 < (x0.length : Int) then (if 0 ≤ x7 then (if (rd x0 x7) < 0 then ((conns_Close.f x5 (Int.tmod (wrap64 (-(wrap64 (rd x0 x7)))) 6)).bind fun t159 => (if 0 ≤ (Int.tmod (wrap64 (-(wrap64 (rd x0 x7)))) 6) then (if (Int.tmod (wrap64 (-(wrap64 (rd x0 x7)))) 6) < (x6.length : Int) then (law22_ConnsPlaces.l0 k x0 x1 t159 (x6.set ((Int.tmod (wrap64 (-(wrap64 (rd x0 x7)))) 6) : Int).toNat false) (wrap64 (x7 + 1))) else (none)) else (none))) else (law22_ConnsPlaces.l1 k x0 x1 x5 x6 x7 0)) else (none)) else ((law22_awake.f k).bind fun t155 => (if t155 = true then ((conns_Right.f k x5).bind fun t156 => (some t156)) else (none)))
def law22_ConnsPlaces.j2 : Nat → List Int → Int → List (S34) → List Bool → Int → Int → Option (Bool)
  | 0, _, _, _, _, _, _ => none
  | k + 1, x0, x1, x5, x6, x7, x9 => if 0 ≤ x7 then (if x7 < (x0.length : Int) then ((conns_Accept.f k x5 (wrap64 (rd x0 x7))).bind fun bt165 => (if (bt165.2.2 != (decide (x9 < (wrap64 (Int.tmod x1 6))))) = true then (law22_ConnsPlaces.j3 k x0 x1 x6 x7 bt165.1 bt165.2.1 bt165.2.2 true) else (if bt165.2.2 = true then (if bt165.2.1 = x9 then (if 0 ≤ bt165.2.1 then (if bt165.2.1 < (bt165.1.length : Int) then (if ((rd_T34 bt165.1 bt165.2.1).f1) = (wrap64 (rd x0 x7)) then (law22_ConnsPlaces.j3 k x0 x1 x6 x7 bt165.1 bt165.2.1 bt165.2.2 ((bt165.1.length : Int) != (wrap64 (Int.tmod x1 6)))) else (law22_ConnsPlaces.j3 k x0 x1 x6 x7 bt165.1 bt165.2.1 bt165.2.2 true)) else (none)) else (none)) else (law22_ConnsPlaces.j3 k x0 x1 x6 x7 bt165.1 bt165.2.1 bt165.2.2 true)) else (law22_ConnsPlaces.j3 k x0 x1 x6 x7 bt165.1 bt165.2.1 bt165.2.2 ((bt165.1.length : Int) != (wrap64 (Int.tmod x1 6))))))) else (none)) else (none)
def law22_ConnsPlaces.j3 : Nat → List Int → Int → List Bool → Int → List (S34) → Int → Bool → Bool → Option (Bool)
  | 0, _, _, _, _, _, _, _, _ => none
  | k + 1, x0, x1, x6, x7, x10, x11, x12, x103 => if x103 = true then (none) else (if x12 = true then (if 0 ≤ x11 then (if x11 < (x6.length : Int) then (law22_ConnsPlaces.j4 k x0 x1 (x6.set (x11 : Int).toNat true) x7 x10) else (none)) else (none)) else (law22_ConnsPlaces.j4 k x0 x1 x6 x7 x10))
def law22_ConnsPlaces.j4 : Nat → List Int → Int → List Bool → Int → List (S34) → Option (Bool)
  | 0, _, _, _, _, _ => none
  | k + 1, x0, x1, x6, x7, x10 => law22_ConnsPlaces.l2 k x0 x1 x10 x6 x7 0
def law22_ConnsPlaces.l2 : Nat → List Int → Int → List (S34) → List Bool → Int → Int → Option (Bool)
  | 0, _, _, _, _, _, _ => none
  | k + 1, x0, x1, x5, x6, x7, x13 => if x13 < 6 then ((conns_Open.f x5 x13).bind fun t173 => (if 0 ≤ x13 then (if x13 < (x6.length : Int) then (if (t173 != (rdOf false x6 x13)) = true then (none) else (law22_ConnsPlaces.l2 k x0 x1 x5 x6 x7 (wrap64 (x13 + 1)))) else (none)) else (none))) else (law22_ConnsPlaces.l0 k x0 x1 x5 x6 (wrap64 (x7 + 1)))
def law22_ConnsPlaces.l1 : Nat → List Int → Int → List (S34) → List Bool → Int → Int → Option (Bool)
  | 0, _, _, _, _, _, _ => none
  | k + 1, x0, x1, x5, x6, x7, x9 => if x9 < (wrap64 (Int.tmod x1 6)) then (if 0 ≤ x9 then (if x9 < (x6.length : Int) then (if rdOf false x6 x9 = true then (law22_ConnsPlaces.l1 k x0 x1 x5 x6 x7 (wrap64 (x9 + 1))) else (law22_ConnsPlaces.j2 k x0 x1 x5 x6 x7 x9)) else (none)) else (none)) else (law22_ConnsPlaces.j2 k x0 x1 x5 x6 x7 x9)
end
def law22_ConnsPlaces.f (k : Nat) (l0 : List Int) (a1 : Int) : Option (Bool) := if (l0.length : Int) > 100 then ((law22_awake.f k).bind fun t148 => (some t148)) else ((conns_New.f (wrap64 (Int.tmod a1 6))).bind fun t149 => (if 6 ≤ 281474976710656 then (law22_ConnsPlaces.l0 k l0 a1 t149 (List.replicate 6 false) 0) else (none)))
theorem law22_ConnsPlaces.mono_l : ∀ k, (∀ y0 y1 y2 y3 y4, LeO (law22_ConnsPlaces.l0 k y0 y1 y2 y3 y4) (law22_ConnsPlaces.l0 (k + 1) y0 y1 y2 y3 y4)) ∧ (∀ y0 y1 y2 y3 y4 y5, LeO (law22_ConnsPlaces.j2 k y0 y1 y2 y3 y4 y5) (law22_ConnsPlaces.j2 (k + 1) y0 y1 y2 y3 y4 y5)) ∧ (∀ y0 y1 y2 y3 y4 y5 y6 y7, LeO (law22_ConnsPlaces.j3 k y0 y1 y2 y3 y4 y5 y6 y7) (law22_ConnsPlaces.j3 (k + 1) y0 y1 y2 y3 y4 y5 y6 y7)) ∧ (∀ y0 y1 y2 y3 y4, LeO (law22_ConnsPlaces.j4 k y0 y1 y2 y3 y4) (law22_ConnsPlaces.j4 (k + 1) y0 y1 y2 y3 y4)) ∧ (∀ y0 y1 y2 y3 y4 y5, LeO (law22_ConnsPlaces.l2 k y0 y1 y2 y3 y4 y5) (law22_ConnsPlaces.l2 (k + 1) y0 y1 y2 y3 y4 y5)) ∧ (∀ y0 y1 y2 y3 y4 y5, LeO (law22_ConnsPlaces.l1 k y0 y1 y2 y3 y4 y5) (law22_ConnsPlaces.l1 (k + 1) y0 y1 y2 y3 y4 y5))
  | 0 => ⟨fun _ _ _ _ _ r h => by simp [law22_ConnsPlaces.l0] at h, fun _ _ _ _ _ _ r h => by simp [law22_ConnsPlaces.j2] at h, fun _ _ _ _ _ _ _ _ r h => by simp [law22_ConnsPlaces.j3] at h, fun _ _ _ _ _ r h => by simp [law22_ConnsPlaces.j4] at h, fun _ _ _ _ _ _ r h => by simp [law22_ConnsPlaces.l2] at h, fun _ _ _ _ _ _ r h => by simp [law22_ConnsPlaces.l1] at h⟩
  | k + 1 => by
    obtain ⟨ih0, ih1, ih2, ih3, ih4, ih5⟩ := law22_ConnsPlaces.mono_l k
    refine ⟨?_, ?_, ?_, ?_, ?_, ?_⟩
    · intro y0 y1 y2 y3 y4
      unfold law22_ConnsPlaces.l0
      repeat' first
      | (with_reducible exact ih0 _ _ _ _ _)
      | (with_reducible exact ih1 _ _ _ _ _ _)
      | (with_reducible exact ih2 _ _ _ _ _ _ _ _)
      | (with_reducible exact ih3 _ _ _ _ _)
      | (with_reducible exact ih4 _ _ _ _ _ _)
      | (with_reducible exact ih5 _ _ _ _ _ _)
      | (with_reducible exact conns_Accept.mono _ _ _)
      | (with_reducible exact conns_Right.mono _ _)
      | (with_reducible exact law22_awake.mono _)
      | (with_reducible exact LeO.refl _)
      | (with_reducible exact LeO.none _)
      | (with_reducible refine LeO.ite ?_ ?_)
      | (with_reducible refine LeO.bind ?_ (fun _ => ?_))
      | exact ih0 _ _ _ _ _
      | exact ih1 _ _ _ _ _ _
      | exact ih2 _ _ _ _ _ _ _ _
      | exact ih3 _ _ _ _ _
      | exact ih4 _ _ _ _ _ _
      | exact ih5 _ _ _ _ _ _
      | exact conns_Accept.mono _ _ _
      | exact conns_Right.mono _ _
      | exact law22_awake.mono _
      | exact LeO.none _
      | refine LeO.ite ?_ ?_
      | refine LeO.bind ?_ (fun _ => ?_)
    · intro y0 y1 y2 y3 y4 y5
      unfold law22_ConnsPlaces.j2
      repeat' first
      | (with_reducible exact ih0 _ _ _ _ _)
      | (with_reducible exact ih1 _ _ _ _ _ _)
      | (with_reducible exact ih2 _ _ _ _ _ _ _ _)
      | (with_reducible exact ih3 _ _ _ _ _)
      | (with_reducible exact ih4 _ _ _ _ _ _)
      | (with_reducible exact ih5 _ _ _ _ _ _)
      | (with_reducible exact conns_Accept.mono _ _ _)
      | (with_reducible exact conns_Right.mono _ _)
      | (with_reducible exact law22_awake.mono _)
      | (with_reducible exact LeO.refl _)
      | (with_reducible exact LeO.none _)
      | (with_reducible refine LeO.ite ?_ ?_)
      | (with_reducible refine LeO.bind ?_ (fun _ => ?_))
      | exact ih0 _ _ _ _ _
      | exact ih1 _ _ _ _ _ _
      | exact ih2 _ _ _ _ _ _ _ _
      | exact ih3 _ _ _ _ _
      | exact ih4 _ _ _ _ _ _
      | exact ih5 _ _ _ _ _ _
      | exact conns_Accept.mono _ _ _
      | exact conns_Right.mono _ _
      | exact law22_awake.mono _
      | exact LeO.none _
      | refine LeO.ite ?_ ?_
      | refine LeO.bind ?_ (fun _ => ?_)
    · intro y0 y1 y2 y3 y4 y5 y6 y7
      unfold law22_ConnsPlaces.j3
      repeat' first
      | (with_reducible exact ih0 _ _ _ _ _)
      | (with_reducible exact ih1 _ _ _ _ _ _)
      | (with_reducible exact ih2 _ _ _ _ _ _ _ _)
      | (with_reducible exact ih3 _ _ _ _ _)
      | (with_reducible exact ih4 _ _ _ _ _ _)
      | (with_reducible exact ih5 _ _ _ _ _ _)
      | (with_reducible exact conns_Accept.mono _ _ _)
      | (with_reducible exact conns_Right.mono _ _)
      | (with_reducible exact law22_awake.mono _)
      | (with_reducible exact LeO.refl _)
      | (with_reducible exact LeO.none _)
      | (with_reducible refine LeO.ite ?_ ?_)
      | (with_reducible refine LeO.bind ?_ (fun _ => ?_))
      | exact ih0 _ _ _ _ _
      | exact ih1 _ _ _ _ _ _
      | exact ih2 _ _ _ _ _ _ _ _
      | exact ih3 _ _ _ _ _
      | exact ih4 _ _ _ _ _ _
      | exact ih5 _ _ _ _ _ _
      | exact conns_Accept.mono _ _ _
      | exact conns_Right.mono _ _
      | exact law22_awake.mono _
      | exact LeO.none _
      | refine LeO.ite ?_ ?_
      | refine LeO.bind ?_ (fun _ => ?_)
    · intro y0 y1 y2 y3 y4
      unfold law22_ConnsPlaces.j4
      repeat' first
      | (with_reducible exact ih0 _ _ _ _ _)
      | (with_reducible exact ih1 _ _ _ _ _ _)
      | (with_reducible exact ih2 _ _ _ _ _ _ _ _)
      | (with_reducible exact ih3 _ _ _ _ _)
      | (with_reducible exact ih4 _ _ _ _ _ _)
      | (with_reducible exact ih5 _ _ _ _ _ _)
      | (with_reducible exact conns_Accept.mono _ _ _)
      | (with_reducible exact conns_Right.mono _ _)
      | (with_reducible exact law22_awake.mono _)
      | (with_reducible exact LeO.refl _)
      | (with_reducible exact LeO.none _)
      | (with_reducible refine LeO.ite ?_ ?_)
      | (with_reducible refine LeO.bind ?_ (fun _ => ?_))
      | exact ih0 _ _ _ _ _
      | exact ih1 _ _ _ _ _ _
      | exact ih2 _ _ _ _ _ _ _ _
      | exact ih3 _ _ _ _ _
      | exact ih4 _ _ _ _ _ _
      | exact ih5 _ _ _ _ _ _
      | exact conns_Accept.mono _ _ _
      | exact conns_Right.mono _ _
      | exact law22_awake.mono _
      | exact LeO.none _
      | refine LeO.ite ?_ ?_
      | refine LeO.bind ?_ (fun _ => ?_)
    · intro y0 y1 y2 y3 y4 y5
      unfold law22_ConnsPlaces.l2
      repeat' first
      | (with_reducible exact ih0 _ _ _ _ _)
      | (with_reducible exact ih1 _ _ _ _ _ _)
      | (with_reducible exact ih2 _ _ _ _ _ _ _ _)
      | (with_reducible exact ih3 _ _ _ _ _)
      | (with_reducible exact ih4 _ _ _ _ _ _)
      | (with_reducible exact ih5 _ _ _ _ _ _)
      | (with_reducible exact conns_Accept.mono _ _ _)
      | (with_reducible exact conns_Right.mono _ _)
      | (with_reducible exact law22_awake.mono _)
      | (with_reducible exact LeO.refl _)
      | (with_reducible exact LeO.none _)
      | (with_reducible refine LeO.ite ?_ ?_)
      | (with_reducible refine LeO.bind ?_ (fun _ => ?_))
      | exact ih0 _ _ _ _ _
      | exact ih1 _ _ _ _ _ _
      | exact ih2 _ _ _ _ _ _ _ _
      | exact ih3 _ _ _ _ _
      | exact ih4 _ _ _ _ _ _
      | exact ih5 _ _ _ _ _ _
      | exact conns_Accept.mono _ _ _
      | exact conns_Right.mono _ _
      | exact law22_awake.mono _
      | exact LeO.none _
      | refine LeO.ite ?_ ?_
      | refine LeO.bind ?_ (fun _ => ?_)
    · intro y0 y1 y2 y3 y4 y5
      unfold law22_ConnsPlaces.l1
      repeat' first
      | (with_reducible exact ih0 _ _ _ _ _)
      | (with_reducible exact ih1 _ _ _ _ _ _)
      | (with_reducible exact ih2 _ _ _ _ _ _ _ _)
      | (with_reducible exact ih3 _ _ _ _ _)
      | (with_reducible exact ih4 _ _ _ _ _ _)
      | (with_reducible exact ih5 _ _ _ _ _ _)
      | (with_reducible exact conns_Accept.mono _ _ _)
      | (with_reducible exact conns_Right.mono _ _)
      | (with_reducible exact law22_awake.mono _)
      | (with_reducible exact LeO.refl _)
      | (with_reducible exact LeO.none _)
      | (with_reducible refine LeO.ite ?_ ?_)
      | (with_reducible refine LeO.bind ?_ (fun _ => ?_))
      | exact ih0 _ _ _ _ _
      | exact ih1 _ _ _ _ _ _
      | exact ih2 _ _ _ _ _ _ _ _
      | exact ih3 _ _ _ _ _
      | exact ih4 _ _ _ _ _ _
      | exact ih5 _ _ _ _ _ _
      | exact conns_Accept.mono _ _ _
      | exact conns_Right.mono _ _
      | exact law22_awake.mono _
      | exact LeO.none _
      | refine LeO.ite ?_ ?_
      | refine LeO.bind ?_ (fun _ => ?_)
theorem law22_ConnsPlaces.mono : ∀ a0 a1 k, LeO (law22_ConnsPlaces.f k a0 a1) (law22_ConnsPlaces.f (k + 1) a0 a1) := by
  intro a0 a1 k
  obtain ⟨ih0, ih1, ih2, ih3, ih4, ih5⟩ := law22_ConnsPlaces.mono_l k
  unfold law22_ConnsPlaces.f
  repeat' first
      | (with_reducible exact ih0 _ _ _ _ _)
      | (with_reducible exact ih1 _ _ _ _ _ _)
      | (with_reducible exact ih2 _ _ _ _ _ _ _ _)
      | (with_reducible exact ih3 _ _ _ _ _)
      | (with_reducible exact ih4 _ _ _ _ _ _)
      | (with_reducible exact ih5 _ _ _ _ _ _)
      | (with_reducible exact conns_Accept.mono _ _ _)
      | (with_reducible exact conns_Right.mono _ _)
      | (with_reducible exact law22_awake.mono _)
      | (with_reducible exact LeO.refl _)
      | (with_reducible exact LeO.none _)
      | (with_reducible refine LeO.ite ?_ ?_)
      | (with_reducible refine LeO.bind ?_ (fun _ => ?_))
      | exact ih0 _ _ _ _ _
      | exact ih1 _ _ _ _ _ _
      | exact ih2 _ _ _ _ _ _ _ _
      | exact ih3 _ _ _ _ _
      | exact ih4 _ _ _ _ _ _
      | exact ih5 _ _ _ _ _ _
      | exact conns_Accept.mono _ _ _
      | exact conns_Right.mono _ _
      | exact law22_awake.mono _
      | exact LeO.none _
      | refine LeO.ite ?_ ?_
      | refine LeO.bind ?_ (fun _ => ?_)
set_option maxHeartbeats 8000000 in
set_option maxRecDepth 100000 in
theorem law22_ConnsPlaces.calls (k : Nat) (A0 : Option Addr) (c0 : Nat) (l0 : List Int) (a1 : Int) (r : Bool) (w : World) (hr0 : Kd.C (Kd.int .i16) w A0 l0.length l0) (hc0 : l0.length ≤ c0) (h : law22_ConnsPlaces.f k l0 a1 = some r) :
    Calls Try.prog 3 #[.slice A0 l0.length c0, .int .u8 a1] w fun e w' => e = .returned (.bool r) ∧ Below w.heap.size w w' := by
  have hu26 := Try.underlying26
  have HR0 := Aside0.mk hr0
  have HC0 := Aside0.mk hc0
  clear hr0 hc0
  have HB := Aside0.mk (Below.refl w.heap.size w)
  have H : (if (l0.length : Int) > 100 then ((law22_awake.f k).bind fun t148 => (some t148)) else ((conns_New.f (wrap64 (Int.tmod a1 6))).bind fun t149 => (if 6 ≤ 281474976710656 then (law22_ConnsPlaces.l0 k l0 a1 t149 (List.replicate 6 false) 0) else (none)))) = some r := h
  clear h
  by_cases c3 : (l0.length : Int) > 100
  · rw [if_pos c3] at H
    have c3b0 : decide (100 < (l0.length : Int)) = true := decide_eq_true c3
    have c3b1 : decide (100 < l0.length) = true := decide_eq_true (by omega)
    clear c3
    replace H := Option.bind_eq_some_iff.mp H
    obtain ⟨t148, A40, H⟩ := H
    replace H : (some t148) = some r := H
    have A4 := Aside0.mk A40
    clear A40
    obtain rfl := Option.some.inj H
    go_enter Try.func3, Try.ntmps3
    go_wp2_with (first | (go_at_call 5; (with_reducible refine (law22_awake.calls k  t148 _ A4.out).mono ?_); rintro e w5 ⟨rfl, hb⟩; have n0_ := Aside0.mk (below_step (by repeat (first | (with_reducible first | exact HB.out | apply below_alloc | apply pw_below_drewN | apply below_drew1) | exact HB.out)) hb); clear HB; have HB := n0_; clear n0_; (try clear hb); (try clear hb2); (try clear hk); (try clear hi)))
    repeat (go_quiet (first | (go_at_call 5; (with_reducible refine (law22_awake.calls k  t148 _ A4.out).mono ?_); rintro e w5 ⟨rfl, hb⟩; have n0_ := Aside0.mk (below_step (by repeat (first | (with_reducible first | exact HB.out | apply below_alloc | apply pw_below_drewN | apply below_drew1) | exact HB.out)) hb); clear HB; have HB := n0_; clear n0_; (try clear hb); (try clear hb2); (try clear hk); (try clear hi))); try go_wp2_with (first | (go_at_call 5; (with_reducible refine (law22_awake.calls k  t148 _ A4.out).mono ?_); rintro e w5 ⟨rfl, hb⟩; have n0_ := Aside0.mk (below_step (by repeat (first | (with_reducible first | exact HB.out | apply below_alloc | apply pw_below_drewN | apply below_drew1) | exact HB.out)) hb); clear HB; have HB := n0_; clear n0_; (try clear hb); (try clear hb2); (try clear hk); (try clear hi))))
    go_ret
    exact ⟨by first | rfl | (simp [errW_none, errW_some] <;> rfl) | (simp [*, errW_none, errW_some] <;> rfl), by repeat (first | (with_reducible first | exact HB.out | apply below_alloc | apply pw_below_drewN | apply below_drew1) | exact HB.out)⟩
  · rw [if_neg c3] at H
    have c3b0 : decide (100 < (l0.length : Int)) = false := decide_eq_false c3
    have c3b1 : decide (100 < l0.length) = false := decide_eq_false (by omega)
    clear c3
    replace H := Option.bind_eq_some_iff.mp H
    obtain ⟨t149, A60, H⟩ := H
    replace H : (if 6 ≤ 281474976710656 then (law22_ConnsPlaces.l0 k l0 a1 t149 (List.replicate 6 false) 0) else (none)) = some r := H
    have A6 := Aside0.mk A60
    clear A60
    by_cases c7 : 6 ≤ 281474976710656
    · rw [if_pos c7] at H
      have c7b0 := eq_true c7
      have c7b1 : decide (6 ≤ 281474976710656) = true := decide_eq_true c7
      clear c7
      obtain ⟨y152, hy152⟩ : ∃ y_ : List Bool, y_ = (List.replicate 6 false) := ⟨_, rfl⟩
      replace H : (law22_ConnsPlaces.l0 k l0 a1 t149 y152 0) = some r := by first | (rw [hy152]; with_reducible exact H) | (have H2_ := (Option.bind_some _ _).symm.trans H; rw [hy152]; with_reducible exact H2_) | (have H2_ := (Option.bind_some _ _).symm.trans H; with_reducible exact H2_) | with_reducible exact H | (rw [hy152]; exact H) | exact H
      have Ny152 := Aside0.mk hy152
      clear hy152
      have H' := Aside0.mk H
      clear H
      go_enter Try.func3, Try.ntmps3
      go_wp2_with (first | (go_at_call 6; (with_reducible refine (conns_New.calls (wrap64 (Int.tmod a1 6)) t149 _ A6.out).mono ?_); rintro e w8 ⟨v150, rfl, ho0, hb⟩; have n0_ := Aside0.mk (Kd.R_lower ho0 (below_size (by repeat (first | (with_reducible first | exact HB.out | apply below_alloc | apply pw_below_drewN | apply below_drew1) | exact HB.out)))); have n1_ := Aside0.mk (below_step (by repeat (first | (with_reducible first | exact HB.out | apply below_alloc | apply pw_below_drewN | apply below_drew1) | exact HB.out)) hb); clear HB; have HO151 := n0_; have HB := n1_; clear n0_ n1_; (try clear hb); (try clear hb2); (try clear hk); (try clear hi); (try clear ho0)) | ((with_reducible refine gate_dst (N := 6) rfl ?_); refine box_event ?hg (N := 6) ?hd (cs := #[(.bool false), (.bool false), (.bool false), (.bool false), (.bool false), (.bool false)]) (t := 26) ?hr ?_; (case hd => rfl); (case hg => rfl); (case hr => first | (go_simp; done) | (go_simp; rfl)); intro gb153 hg w9 hbox hb; obtain ⟨v153, hv153⟩ : ∃ v_ : Value, v_ = .slice (some ⟨gb153, 0, none⟩) 6 6 := ⟨_, rfl⟩; have ho10 : Kd.R Kd.bool 26 w9 _ (fun _ => True) v153 (List.replicate 6 false) := Kd.box_rowR hbox (Nat.le_of_eq hg.symm) (by decide) rfl hv153; have HV153 := Aside0.mk hv153; clear hbox hg hv153; (first | rw [← Ny152.out] at ho10 | (simp only [Int.reduceToNat] at ho10; rw [← Ny152.out] at ho10)); have n0_ := Aside0.mk (Kd.R_below (by (with_reducible repeat (first | apply Kd.R_alloc | apply Kd.R_drewN | apply Kd.R_drew)); exact HO151.out) hb); have n1_ := Aside0.mk (Kd.R_lower ho10 (below_size (by repeat (first | (with_reducible first | exact HB.out | apply below_alloc | apply pw_below_drewN | apply below_drew1) | exact HB.out)))); have n2_ := Aside0.mk (below_step (by repeat (first | (with_reducible first | exact HB.out | apply below_alloc | apply pw_below_drewN | apply below_drew1) | exact HB.out)) hb); clear HO151; clear HB; have HO151 := n0_; have HO154 := n1_; have HB := n2_; clear n0_ n1_ n2_; clear hb ho10))
      repeat (go_quiet (first | (go_at_call 6; (with_reducible refine (conns_New.calls (wrap64 (Int.tmod a1 6)) t149 _ A6.out).mono ?_); rintro e w8 ⟨v150, rfl, ho0, hb⟩; have n0_ := Aside0.mk (Kd.R_lower ho0 (below_size (by repeat (first | (with_reducible first | exact HB.out | apply below_alloc | apply pw_below_drewN | apply below_drew1) | exact HB.out)))); have n1_ := Aside0.mk (below_step (by repeat (first | (with_reducible first | exact HB.out | apply below_alloc | apply pw_below_drewN | apply below_drew1) | exact HB.out)) hb); clear HB; have HO151 := n0_; have HB := n1_; clear n0_ n1_; (try clear hb); (try clear hb2); (try clear hk); (try clear hi); (try clear ho0)) | ((with_reducible refine gate_dst (N := 6) rfl ?_); refine box_event ?hg (N := 6) ?hd (cs := #[(.bool false), (.bool false), (.bool false), (.bool false), (.bool false), (.bool false)]) (t := 26) ?hr ?_; (case hd => rfl); (case hg => rfl); (case hr => first | (go_simp; done) | (go_simp; rfl)); intro gb153 hg w9 hbox hb; obtain ⟨v153, hv153⟩ : ∃ v_ : Value, v_ = .slice (some ⟨gb153, 0, none⟩) 6 6 := ⟨_, rfl⟩; have ho10 : Kd.R Kd.bool 26 w9 _ (fun _ => True) v153 (List.replicate 6 false) := Kd.box_rowR hbox (Nat.le_of_eq hg.symm) (by decide) rfl hv153; have HV153 := Aside0.mk hv153; clear hbox hg hv153; (first | rw [← Ny152.out] at ho10 | (simp only [Int.reduceToNat] at ho10; rw [← Ny152.out] at ho10)); have n0_ := Aside0.mk (Kd.R_below (by (with_reducible repeat (first | apply Kd.R_alloc | apply Kd.R_drewN | apply Kd.R_drew)); exact HO151.out) hb); have n1_ := Aside0.mk (Kd.R_lower ho10 (below_size (by repeat (first | (with_reducible first | exact HB.out | apply below_alloc | apply pw_below_drewN | apply below_drew1) | exact HB.out)))); have n2_ := Aside0.mk (below_step (by repeat (first | (with_reducible first | exact HB.out | apply below_alloc | apply pw_below_drewN | apply below_drew1) | exact HB.out)) hb); clear HO151; clear HB; have HO151 := n0_; have HO154 := n1_; have HB := n2_; clear n0_ n1_ n2_; clear hb ho10)); try go_wp2_with (first | (go_at_call 6; (with_reducible refine (conns_New.calls (wrap64 (Int.tmod a1 6)) t149 _ A6.out).mono ?_); rintro e w8 ⟨v150, rfl, ho0, hb⟩; have n0_ := Aside0.mk (Kd.R_lower ho0 (below_size (by repeat (first | (with_reducible first | exact HB.out | apply below_alloc | apply pw_below_drewN | apply below_drew1) | exact HB.out)))); have n1_ := Aside0.mk (below_step (by repeat (first | (with_reducible first | exact HB.out | apply below_alloc | apply pw_below_drewN | apply below_drew1) | exact HB.out)) hb); clear HB; have HO151 := n0_; have HB := n1_; clear n0_ n1_; (try clear hb); (try clear hb2); (try clear hk); (try clear hi); (try clear ho0)) | ((with_reducible refine gate_dst (N := 6) rfl ?_); refine box_event ?hg (N := 6) ?hd (cs := #[(.bool false), (.bool false), (.bool false), (.bool false), (.bool false), (.bool false)]) (t := 26) ?hr ?_; (case hd => rfl); (case hg => rfl); (case hr => first | (go_simp; done) | (go_simp; rfl)); intro gb153 hg w9 hbox hb; obtain ⟨v153, hv153⟩ : ∃ v_ : Value, v_ = .slice (some ⟨gb153, 0, none⟩) 6 6 := ⟨_, rfl⟩; have ho10 : Kd.R Kd.bool 26 w9 _ (fun _ => True) v153 (List.replicate 6 false) := Kd.box_rowR hbox (Nat.le_of_eq hg.symm) (by decide) rfl hv153; have HV153 := Aside0.mk hv153; clear hbox hg hv153; (first | rw [← Ny152.out] at ho10 | (simp only [Int.reduceToNat] at ho10; rw [← Ny152.out] at ho10)); have n0_ := Aside0.mk (Kd.R_below (by (with_reducible repeat (first | apply Kd.R_alloc | apply Kd.R_drewN | apply Kd.R_drew)); exact HO151.out) hb); have n1_ := Aside0.mk (Kd.R_lower ho10 (below_size (by repeat (first | (with_reducible first | exact HB.out | apply below_alloc | apply pw_below_drewN | apply below_drew1) | exact HB.out)))); have n2_ := Aside0.mk (below_step (by repeat (first | (with_reducible first | exact HB.out | apply below_alloc | apply pw_below_drewN | apply below_drew1) | exact HB.out)) hb); clear HO151; clear HB; have HO151 := n0_; have HO154 := n1_; have HB := n2_; clear n0_ n1_ n2_; clear hb ho10)))
      go_loopg [5, 7] k (fun kq v5 v7 w' => ∃ (x5_1 : List (S34)) (x6_1 : List Bool) (x7_1 : Int), v7 = .int .i64 x7_1 ∧ Aside0 (law22_ConnsPlaces.l0 kq l0 a1 x5_1 x6_1 x7_1 = some r) ∧ Aside0 (kq ≤ k) ∧ Aside0 (Kd.V k34 34 w' w.heap.size (fun k_ => some k_ ≠ (v153 : Value).ownBlock) v5 x5_1) ∧ Aside0 (Kd.R Kd.bool 26 w' w.heap.size (fun _ => True) v153 x6_1) ∧ Aside0 (Below w.heap.size w w'))
      case atStart => exact ⟨(t149), (y152), (0), (by first | rfl | (simp; done) | (simp [*]; done) | (simp [bne_nil_]; done)), H', ⟨Nat.le_refl _⟩, ⟨Kd.R_V (by (with_reducible repeat (first | apply Kd.R_alloc | apply Kd.R_drewN | apply Kd.R_drew)); exact Kd.R_mono (Kd.R_apart' HO151.out (Kd.R_typed HO154.out) (by decide)) (fun _ hk => hk.2))⟩, ⟨by (with_reducible repeat (first | apply Kd.R_alloc | apply Kd.R_drewN | apply Kd.R_drew)); exact HO154.out⟩, ⟨by repeat (first | (with_reducible first | exact HB.out | apply below_alloc | apply pw_below_drewN | apply below_drew1) | exact HB.out)⟩⟩
      case round =>
        clear H'
        try clear p2
        try clear c3
        try clear c3b0
        try clear c3b1
        try clear p6
        try clear c7
        try clear c7b0
        try clear c7b1
        obtain ⟨x5_1, x6_1, x7_1, rfl, HA, HK1, HO_5, HO_6, HB⟩ := hrel
        cases gk with
        | zero => exact absurd HA.out (by simp [law22_ConnsPlaces.l0])
        | succ k1 =>
          have H := HA.out
          clear HA
          simp only [law22_ConnsPlaces.l0] at H
          by_cases c11 : x7_1 < (l0.length : Int)
          · rw [if_pos c11] at H
            have c11b0 : decide (x7_1 < (l0.length : Int)) = true := decide_eq_true c11
            clear c11
            by_cases c12 : 0 ≤ x7_1
            · rw [if_pos c12] at H
              have c12b0 : decide (0 ≤ x7_1) = true := decide_eq_true c12
              clear c12
              by_cases c13 : (rd l0 x7_1) < 0
              · rw [if_pos c13] at H
                have c13b0 : decide ((rd l0 x7_1) < 0) = true := decide_eq_true c13
                clear c13
                replace H := Option.bind_eq_some_iff.mp H
                obtain ⟨t159, A140, H⟩ := H
                replace H : (if 0 ≤ (Int.tmod (wrap64 (-(wrap64 (rd l0 x7_1)))) 6) then (if (Int.tmod (wrap64 (-(wrap64 (rd l0 x7_1)))) 6) < (x6_1.length : Int) then (law22_ConnsPlaces.l0 k1 l0 a1 t159 (x6_1.set ((Int.tmod (wrap64 (-(wrap64 (rd l0 x7_1)))) 6) : Int).toNat false) (wrap64 (x7_1 + 1))) else (none)) else (none)) = some r := H
                have A14 := Aside0.mk A140
                clear A140
                obtain ⟨ji15, hji15⟩ : ∃ j_ : Int, (Int.tmod (wrap64 (-(wrap64 (rd l0 x7_1)))) 6) = j_ := ⟨_, rfl⟩
                replace H : (if 0 ≤ (ji15) then (if (ji15) < (x6_1.length : Int) then (law22_ConnsPlaces.l0 k1 l0 a1 t159 (x6_1.set ((ji15) : Int).toNat false) (wrap64 (x7_1 + 1))) else (none)) else (none)) = some r := by first | (rw [hji15] at H; exact H) | (simp only [hji15] at H ⊢; exact H)
                (try rw [hji15] at A14)
                by_cases c16 : 0 ≤ (ji15)
                · rw [if_pos c16] at H
                  have c16b0 : decide (0 ≤ (ji15)) = true := decide_eq_true c16
                  clear c16
                  by_cases c17 : (ji15) < (x6_1.length : Int)
                  · rw [if_pos c17] at H
                    have c17b0 : decide ((ji15) < (x6_1.length : Int)) = true := decide_eq_true c17
                    clear c17
                    obtain ⟨y162, hy162⟩ : ∃ y_ : List Bool, y_ = (x6_1.set ((ji15) : Int).toNat false) := ⟨_, rfl⟩
                    replace H : (law22_ConnsPlaces.l0 k1 l0 a1 t159 y162 (wrap64 (x7_1 + 1))) = some r := by first | (rw [hy162]; with_reducible exact H) | (have H2_ := (Option.bind_some _ _).symm.trans H; rw [hy162]; with_reducible exact H2_) | (have H2_ := (Option.bind_some _ _).symm.trans H; with_reducible exact H2_) | with_reducible exact H | (rw [hy162]; exact H) | exact H
                    have Ny162 := Aside0.mk hy162
                    clear hy162
                    have H' := Aside0.mk H
                    clear H
                    have p157 : 0 ≤ (x7_1 : Int) := of_decide_eq_true (by first | (with_reducible assumption) | assumption)
                    have q157 : x7_1 < (l0.length : Int) := of_decide_eq_true (by first | (with_reducible assumption) | assumption)
                    obtain ⟨ad157, e157, hx157_0⟩ := Kd.at_int HR0.out x7_1 p157 q157
                    cases e157
                    replace hx157_0 := (HB.out.cell (World.block_lt_of_cell? w _ hx157_0)).trans hx157_0
                    replace p157 := eq_true p157
                    replace q157 := eq_true q157
                    have p158 : 0 ≤ (x7_1 : Int) := of_decide_eq_true (by first | (with_reducible assumption) | assumption)
                    have q158 : x7_1 < (l0.length : Int) := of_decide_eq_true (by first | (with_reducible assumption) | assumption)
                    obtain ⟨ad158, e158, hx158_0⟩ := Kd.at_int HR0.out x7_1 p158 q158
                    obtain rfl : ad157 = ad158 := (by injection e158)
                    replace hx158_0 := (HB.out.cell (World.block_lt_of_cell? w _ hx158_0)).trans hx158_0
                    replace p158 := eq_true p158
                    replace q158 := eq_true q158
                    obtain ⟨Ao19, co19, eo19⟩ := Kd.V_slice HO_5.out
                    subst eo19
                    go_wp2_with (first | (go_at_call 7; (with_reducible refine (conns_Close.calls (fun k_ => some k_ ≠ (v153 : Value).ownBlock) _ _ x5_1 ji15 t159 _ ?side1 A14.out).mono ?_); (case side1 => exact HO_5.out); rintro e w20 ⟨v160, rfl, ho0, hb⟩; have n0_ := Aside0.mk (Kd.V_below (by (with_reducible repeat (first | apply Kd.V_alloc | apply Kd.V_drewN | apply Kd.V_drew)); exact HO_5.out) hb); have n1_ := Aside0.mk (Kd.R_below (by (with_reducible repeat (first | apply Kd.R_alloc | apply Kd.R_drewN | apply Kd.R_drew)); exact HO_6.out) hb); have n2_ := Aside0.mk (Kd.V_lower (Kd.V_mono (ok' := fun k_ => some k_ ≠ (v153 : Value).ownBlock) ho0 (fun k_ hk_ => Or.elim hk_ (fun hs_ => hs_) (fun hn_ => (Kd.fresh' (Kd.R_lt (by (with_reducible repeat (first | apply Kd.R_alloc | apply Kd.R_drewN | apply Kd.R_drew)); exact HO_6.out)) k_ hn_)))) (below_size (by repeat (first | (with_reducible first | exact HB.out | apply below_alloc | apply pw_below_drewN | apply below_drew1) | exact HB.out)))); have n3_ := Aside0.mk (below_step (by repeat (first | (with_reducible first | exact HB.out | apply below_alloc | apply pw_below_drewN | apply below_drew1) | exact HB.out)) hb); clear HO_5; clear HO_6; clear HB; have HO_5 := n0_; have HO_6 := n1_; have HO161 := n2_; have HB := n3_; clear n0_ n1_ n2_ n3_; (try clear hb); (try clear hb2); (try clear hk); (try clear hi); (try clear ho0); have p18 : 0 ≤ ((ji15) : Int) := of_decide_eq_true (by first | (with_reducible assumption) | assumption); have q18 : ((ji15) : Int) < ((x6_1.length : Int) : Int) := of_decide_eq_true (by first | (with_reducible assumption) | assumption); obtain ⟨go18, co18, eo18, gb18, gl18, cl18, HG18⟩ := Kd.R_form HO_6.out (by omega); cases eo18; obtain ⟨ea18_, el18_, ec18_⟩ := Kd.slice_inj HV153.out; have eg18_ : go18 = gb153 := (by injection ea18_ with h_; injection h_); subst eg18_; have el18I_ : ((List.length _ : Nat) : Int) = 6 := congrArg Nat.cast el18_; have GB18 := Aside0.mk gb18; have GG18 := Aside0.mk HG18; clear gb18 gl18 HG18; obtain ⟨hx18_0, hf18_0⟩ := Kd.R_celln false HO_6.out ((ji15) : Int) p18 q18; replace p18 := eq_true p18; replace q18 := eq_true q18; have r18_ : _ < (6 : Int) := Kd.lt_eq (of_eq_true q18) el18I_; have r18T_ := eq_true r18_; have r18F_ := eq_false (Int.not_le.2 r18_); obtain ⟨hy21_, hz21_⟩ := Kd.R_celln false HO_6.out ((ji15) : Int) (of_decide_eq_true (by first | (with_reducible assumption) | assumption)) (of_decide_eq_true (by first | (with_reducible assumption) | assumption)); have HP21 := Kd.R_putg HO_6.out ((ji15) : Int) false) | ((with_reducible refine gate_store (t := 4) (p := 44) rfl ?_); (try (rw [drewN_self w20]; generalize hq_ : World.drewN w20 _ = w20; have n0_ := Aside0.mk (Kd.V_at hq_ HO_5.out); have n1_ := Aside0.mk (Kd.R_at hq_ HO_6.out); have n2_ := Aside0.mk (Kd.V_at hq_ HO161.out); have n3_ := Aside0.mk (below_at hq_ HB.out); clear hq_ HO_5 HO_6 HO161 HB; have HO_5 := n0_; have HO_6 := n1_; have HO161 := n2_; have HB := n3_; clear n0_ n1_ n2_ n3_; (try (obtain ⟨hy21_, hz21_⟩ := Kd.R_celln false HO_6.out ((ji15) : Int) (of_decide_eq_true (by first | (with_reducible assumption) | assumption)) (of_decide_eq_true (by first | (with_reducible assumption) | assumption)))); (try (have HP21 := Kd.R_putg HO_6.out ((ji15) : Int) false)))); refine store_event (t := 4) (p := 44) (v := ?vo_w22) (w1 := (w20.setCell ⟨go18, ((ji15) : Int).toNat, none⟩ (.bool false))) ?hg ?ho ?hn ?hr ?_; (case ho => rfl); (case hg => rfl); (case hn => rfl); (case hr => first | (go_simp; done) | (go_simp; rfl)); intro w22 hw; have hg : w20.grownBy w22 (some go18) := (by rw [hw]; exact HP21.2); have hp_ : Kd.R Kd.bool 26 w22 w.heap.size (fun _ => True) (.slice (some ⟨go18, 0, none⟩) x6_1.length co18) y162 := (by rw [hw, Ny162.out]; exact HP21.1); clear HP21; have n0_ := Aside0.mk (Kd.V_afterv (v := (.slice (some ⟨go18, 0, none⟩) x6_1.length co18)) (v1 := (.slice (some ⟨go18, 0, none⟩) x6_1.length co18)) (ok := (fun _ => True)) (by (with_reducible repeat (first | apply Kd.V_alloc | apply Kd.V_drewN | apply Kd.V_drew)); exact Kd.V_mono HO_5.out (fun _ hk => ⟨trivial, hk⟩)) hg (.inl rfl)); have n1_ := Aside0.mk (hp_); have n2_ := Aside0.mk (Kd.V_afterv (v := (.slice (some ⟨go18, 0, none⟩) x6_1.length co18)) (v1 := (.slice (some ⟨go18, 0, none⟩) x6_1.length co18)) (ok := (fun _ => True)) (by (with_reducible repeat (first | apply Kd.V_alloc | apply Kd.V_drewN | apply Kd.V_drew)); exact Kd.V_mono HO161.out (fun _ hk => ⟨trivial, hk⟩)) hg (.inl rfl)); have n3_ := Aside0.mk ((by rw [hw]; exact below_set (HB.out) GB18.out : Below w.heap.size w w22)); clear HO_5; clear HO_6; clear HO161; clear HB; have HO_5 := n0_; have HO_6 := n1_; have HO161 := n2_; have HB := n3_; clear n0_ n1_ n2_ n3_; clear hg hw hp_))
                    repeat (go_quiet (first | (go_at_call 7; (with_reducible refine (conns_Close.calls (fun k_ => some k_ ≠ (v153 : Value).ownBlock) _ _ x5_1 ji15 t159 _ ?side1 A14.out).mono ?_); (case side1 => exact HO_5.out); rintro e w20 ⟨v160, rfl, ho0, hb⟩; have n0_ := Aside0.mk (Kd.V_below (by (with_reducible repeat (first | apply Kd.V_alloc | apply Kd.V_drewN | apply Kd.V_drew)); exact HO_5.out) hb); have n1_ := Aside0.mk (Kd.R_below (by (with_reducible repeat (first | apply Kd.R_alloc | apply Kd.R_drewN | apply Kd.R_drew)); exact HO_6.out) hb); have n2_ := Aside0.mk (Kd.V_lower (Kd.V_mono (ok' := fun k_ => some k_ ≠ (v153 : Value).ownBlock) ho0 (fun k_ hk_ => Or.elim hk_ (fun hs_ => hs_) (fun hn_ => (Kd.fresh' (Kd.R_lt (by (with_reducible repeat (first | apply Kd.R_alloc | apply Kd.R_drewN | apply Kd.R_drew)); exact HO_6.out)) k_ hn_)))) (below_size (by repeat (first | (with_reducible first | exact HB.out | apply below_alloc | apply pw_below_drewN | apply below_drew1) | exact HB.out)))); have n3_ := Aside0.mk (below_step (by repeat (first | (with_reducible first | exact HB.out | apply below_alloc | apply pw_below_drewN | apply below_drew1) | exact HB.out)) hb); clear HO_5; clear HO_6; clear HB; have HO_5 := n0_; have HO_6 := n1_; have HO161 := n2_; have HB := n3_; clear n0_ n1_ n2_ n3_; (try clear hb); (try clear hb2); (try clear hk); (try clear hi); (try clear ho0); have p18 : 0 ≤ ((ji15) : Int) := of_decide_eq_true (by first | (with_reducible assumption) | assumption); have q18 : ((ji15) : Int) < ((x6_1.length : Int) : Int) := of_decide_eq_true (by first | (with_reducible assumption) | assumption); obtain ⟨go18, co18, eo18, gb18, gl18, cl18, HG18⟩ := Kd.R_form HO_6.out (by omega); cases eo18; obtain ⟨ea18_, el18_, ec18_⟩ := Kd.slice_inj HV153.out; have eg18_ : go18 = gb153 := (by injection ea18_ with h_; injection h_); subst eg18_; have el18I_ : ((List.length _ : Nat) : Int) = 6 := congrArg Nat.cast el18_; have GB18 := Aside0.mk gb18; have GG18 := Aside0.mk HG18; clear gb18 gl18 HG18; obtain ⟨hx18_0, hf18_0⟩ := Kd.R_celln false HO_6.out ((ji15) : Int) p18 q18; replace p18 := eq_true p18; replace q18 := eq_true q18; have r18_ : _ < (6 : Int) := Kd.lt_eq (of_eq_true q18) el18I_; have r18T_ := eq_true r18_; have r18F_ := eq_false (Int.not_le.2 r18_); obtain ⟨hy21_, hz21_⟩ := Kd.R_celln false HO_6.out ((ji15) : Int) (of_decide_eq_true (by first | (with_reducible assumption) | assumption)) (of_decide_eq_true (by first | (with_reducible assumption) | assumption)); have HP21 := Kd.R_putg HO_6.out ((ji15) : Int) false) | ((with_reducible refine gate_store (t := 4) (p := 44) rfl ?_); (try (rw [drewN_self w20]; generalize hq_ : World.drewN w20 _ = w20; have n0_ := Aside0.mk (Kd.V_at hq_ HO_5.out); have n1_ := Aside0.mk (Kd.R_at hq_ HO_6.out); have n2_ := Aside0.mk (Kd.V_at hq_ HO161.out); have n3_ := Aside0.mk (below_at hq_ HB.out); clear hq_ HO_5 HO_6 HO161 HB; have HO_5 := n0_; have HO_6 := n1_; have HO161 := n2_; have HB := n3_; clear n0_ n1_ n2_ n3_; (try (obtain ⟨hy21_, hz21_⟩ := Kd.R_celln false HO_6.out ((ji15) : Int) (of_decide_eq_true (by first | (with_reducible assumption) | assumption)) (of_decide_eq_true (by first | (with_reducible assumption) | assumption)))); (try (have HP21 := Kd.R_putg HO_6.out ((ji15) : Int) false)))); refine store_event (t := 4) (p := 44) (v := ?vo_w22) (w1 := (w20.setCell ⟨go18, ((ji15) : Int).toNat, none⟩ (.bool false))) ?hg ?ho ?hn ?hr ?_; (case ho => rfl); (case hg => rfl); (case hn => rfl); (case hr => first | (go_simp; done) | (go_simp; rfl)); intro w22 hw; have hg : w20.grownBy w22 (some go18) := (by rw [hw]; exact HP21.2); have hp_ : Kd.R Kd.bool 26 w22 w.heap.size (fun _ => True) (.slice (some ⟨go18, 0, none⟩) x6_1.length co18) y162 := (by rw [hw, Ny162.out]; exact HP21.1); clear HP21; have n0_ := Aside0.mk (Kd.V_afterv (v := (.slice (some ⟨go18, 0, none⟩) x6_1.length co18)) (v1 := (.slice (some ⟨go18, 0, none⟩) x6_1.length co18)) (ok := (fun _ => True)) (by (with_reducible repeat (first | apply Kd.V_alloc | apply Kd.V_drewN | apply Kd.V_drew)); exact Kd.V_mono HO_5.out (fun _ hk => ⟨trivial, hk⟩)) hg (.inl rfl)); have n1_ := Aside0.mk (hp_); have n2_ := Aside0.mk (Kd.V_afterv (v := (.slice (some ⟨go18, 0, none⟩) x6_1.length co18)) (v1 := (.slice (some ⟨go18, 0, none⟩) x6_1.length co18)) (ok := (fun _ => True)) (by (with_reducible repeat (first | apply Kd.V_alloc | apply Kd.V_drewN | apply Kd.V_drew)); exact Kd.V_mono HO161.out (fun _ hk => ⟨trivial, hk⟩)) hg (.inl rfl)); have n3_ := Aside0.mk ((by rw [hw]; exact below_set (HB.out) GB18.out : Below w.heap.size w w22)); clear HO_5; clear HO_6; clear HO161; clear HB; have HO_5 := n0_; have HO_6 := n1_; have HO161 := n2_; have HB := n3_; clear n0_ n1_ n2_ n3_; clear hg hw hp_)); try go_wp2_with (first | (go_at_call 7; (with_reducible refine (conns_Close.calls (fun k_ => some k_ ≠ (v153 : Value).ownBlock) _ _ x5_1 ji15 t159 _ ?side1 A14.out).mono ?_); (case side1 => exact HO_5.out); rintro e w20 ⟨v160, rfl, ho0, hb⟩; have n0_ := Aside0.mk (Kd.V_below (by (with_reducible repeat (first | apply Kd.V_alloc | apply Kd.V_drewN | apply Kd.V_drew)); exact HO_5.out) hb); have n1_ := Aside0.mk (Kd.R_below (by (with_reducible repeat (first | apply Kd.R_alloc | apply Kd.R_drewN | apply Kd.R_drew)); exact HO_6.out) hb); have n2_ := Aside0.mk (Kd.V_lower (Kd.V_mono (ok' := fun k_ => some k_ ≠ (v153 : Value).ownBlock) ho0 (fun k_ hk_ => Or.elim hk_ (fun hs_ => hs_) (fun hn_ => (Kd.fresh' (Kd.R_lt (by (with_reducible repeat (first | apply Kd.R_alloc | apply Kd.R_drewN | apply Kd.R_drew)); exact HO_6.out)) k_ hn_)))) (below_size (by repeat (first | (with_reducible first | exact HB.out | apply below_alloc | apply pw_below_drewN | apply below_drew1) | exact HB.out)))); have n3_ := Aside0.mk (below_step (by repeat (first | (with_reducible first | exact HB.out | apply below_alloc | apply pw_below_drewN | apply below_drew1) | exact HB.out)) hb); clear HO_5; clear HO_6; clear HB; have HO_5 := n0_; have HO_6 := n1_; have HO161 := n2_; have HB := n3_; clear n0_ n1_ n2_ n3_; (try clear hb); (try clear hb2); (try clear hk); (try clear hi); (try clear ho0); have p18 : 0 ≤ ((ji15) : Int) := of_decide_eq_true (by first | (with_reducible assumption) | assumption); have q18 : ((ji15) : Int) < ((x6_1.length : Int) : Int) := of_decide_eq_true (by first | (with_reducible assumption) | assumption); obtain ⟨go18, co18, eo18, gb18, gl18, cl18, HG18⟩ := Kd.R_form HO_6.out (by omega); cases eo18; obtain ⟨ea18_, el18_, ec18_⟩ := Kd.slice_inj HV153.out; have eg18_ : go18 = gb153 := (by injection ea18_ with h_; injection h_); subst eg18_; have el18I_ : ((List.length _ : Nat) : Int) = 6 := congrArg Nat.cast el18_; have GB18 := Aside0.mk gb18; have GG18 := Aside0.mk HG18; clear gb18 gl18 HG18; obtain ⟨hx18_0, hf18_0⟩ := Kd.R_celln false HO_6.out ((ji15) : Int) p18 q18; replace p18 := eq_true p18; replace q18 := eq_true q18; have r18_ : _ < (6 : Int) := Kd.lt_eq (of_eq_true q18) el18I_; have r18T_ := eq_true r18_; have r18F_ := eq_false (Int.not_le.2 r18_); obtain ⟨hy21_, hz21_⟩ := Kd.R_celln false HO_6.out ((ji15) : Int) (of_decide_eq_true (by first | (with_reducible assumption) | assumption)) (of_decide_eq_true (by first | (with_reducible assumption) | assumption)); have HP21 := Kd.R_putg HO_6.out ((ji15) : Int) false) | ((with_reducible refine gate_store (t := 4) (p := 44) rfl ?_); (try (rw [drewN_self w20]; generalize hq_ : World.drewN w20 _ = w20; have n0_ := Aside0.mk (Kd.V_at hq_ HO_5.out); have n1_ := Aside0.mk (Kd.R_at hq_ HO_6.out); have n2_ := Aside0.mk (Kd.V_at hq_ HO161.out); have n3_ := Aside0.mk (below_at hq_ HB.out); clear hq_ HO_5 HO_6 HO161 HB; have HO_5 := n0_; have HO_6 := n1_; have HO161 := n2_; have HB := n3_; clear n0_ n1_ n2_ n3_; (try (obtain ⟨hy21_, hz21_⟩ := Kd.R_celln false HO_6.out ((ji15) : Int) (of_decide_eq_true (by first | (with_reducible assumption) | assumption)) (of_decide_eq_true (by first | (with_reducible assumption) | assumption)))); (try (have HP21 := Kd.R_putg HO_6.out ((ji15) : Int) false)))); refine store_event (t := 4) (p := 44) (v := ?vo_w22) (w1 := (w20.setCell ⟨go18, ((ji15) : Int).toNat, none⟩ (.bool false))) ?hg ?ho ?hn ?hr ?_; (case ho => rfl); (case hg => rfl); (case hn => rfl); (case hr => first | (go_simp; done) | (go_simp; rfl)); intro w22 hw; have hg : w20.grownBy w22 (some go18) := (by rw [hw]; exact HP21.2); have hp_ : Kd.R Kd.bool 26 w22 w.heap.size (fun _ => True) (.slice (some ⟨go18, 0, none⟩) x6_1.length co18) y162 := (by rw [hw, Ny162.out]; exact HP21.1); clear HP21; have n0_ := Aside0.mk (Kd.V_afterv (v := (.slice (some ⟨go18, 0, none⟩) x6_1.length co18)) (v1 := (.slice (some ⟨go18, 0, none⟩) x6_1.length co18)) (ok := (fun _ => True)) (by (with_reducible repeat (first | apply Kd.V_alloc | apply Kd.V_drewN | apply Kd.V_drew)); exact Kd.V_mono HO_5.out (fun _ hk => ⟨trivial, hk⟩)) hg (.inl rfl)); have n1_ := Aside0.mk (hp_); have n2_ := Aside0.mk (Kd.V_afterv (v := (.slice (some ⟨go18, 0, none⟩) x6_1.length co18)) (v1 := (.slice (some ⟨go18, 0, none⟩) x6_1.length co18)) (ok := (fun _ => True)) (by (with_reducible repeat (first | apply Kd.V_alloc | apply Kd.V_drewN | apply Kd.V_drew)); exact Kd.V_mono HO161.out (fun _ hk => ⟨trivial, hk⟩)) hg (.inl rfl)); have n3_ := Aside0.mk ((by rw [hw]; exact below_set (HB.out) GB18.out : Below w.heap.size w w22)); clear HO_5; clear HO_6; clear HO161; clear HB; have HO_5 := n0_; have HO_6 := n1_; have HO161 := n2_; have HB := n3_; clear n0_ n1_ n2_ n3_; clear hg hw hp_)))
                    go_roundg k1
                    case measure => have := HK1.out; omega
                    case rel => exact ⟨(t159), (y162), (wrap64 (x7_1 + 1)), (by first | rfl | (simp; done) | (simp [*]; done) | (simp [bne_nil_]; done)), H', ⟨by have := HK1.out; omega⟩, ⟨by (with_reducible repeat (first | apply Kd.V_alloc | apply Kd.V_drewN | apply Kd.V_drew)); exact Kd.V_mono HO161.out (fun _ hk => hk.2)⟩, ⟨by (with_reducible repeat (first | apply Kd.R_alloc | apply Kd.R_drewN | apply Kd.R_drew)); exact HO_6.out⟩, ⟨by repeat (first | (with_reducible first | exact HB.out | apply below_alloc | apply pw_below_drewN | apply below_drew1) | exact HB.out)⟩⟩
                  · rw [if_neg c17] at H
                    exact absurd H (by simp)
                · rw [if_neg c16] at H
                  exact absurd H (by simp)
              · rw [if_neg c13] at H
                have c13b0 : decide ((rd l0 x7_1) < 0) = false := decide_eq_false c13
                clear c13
                have HC23 := Aside0.mk H
                clear H
                have p157 : 0 ≤ (x7_1 : Int) := of_decide_eq_true (by first | (with_reducible assumption) | assumption)
                have q157 : x7_1 < (l0.length : Int) := of_decide_eq_true (by first | (with_reducible assumption) | assumption)
                obtain ⟨ad157, e157, hx157_0⟩ := Kd.at_int HR0.out x7_1 p157 q157
                cases e157
                replace hx157_0 := (HB.out.cell (World.block_lt_of_cell? w _ hx157_0)).trans hx157_0
                replace p157 := eq_true p157
                replace q157 := eq_true q157
                go_upto_block 2 with (fail)
                repeat (go_quiet (fail); go_upto_block 2 with (fail))
                go_cut [9] (fun v9 wc => ∃ (kq : Nat) (x9_22 : Int), v9 = .int .i64 x9_22 ∧ Aside0 (law22_ConnsPlaces.j2 kq l0 a1 x5_1 x6_1 x7_1 x9_22 = some r) ∧ Aside0 (kq ≤ k1) ∧ Aside0 (Kd.V k34 34 wc w.heap.size (fun k_ => some k_ ≠ (v153 : Value).ownBlock) u5 x5_1) ∧ Aside0 (Kd.R Kd.bool 26 wc w.heap.size (fun _ => True) v153 x6_1) ∧ Aside0 (Below w.heap.size w wc))
                case first =>
                  have H := HC23.out
                  clear HC23
                  have H' := Aside0.mk H
                  clear H
                  go_wp2
                  repeat (go_quiet (fail); try go_wp2)
                  go_loopg [9] k1 (fun kq v9 w' => ∃ (x9_2 : Int), v9 = .int .i64 x9_2 ∧ Aside0 (law22_ConnsPlaces.l1 kq l0 a1 x5_1 x6_1 x7_1 x9_2 = some r) ∧ Aside0 (kq ≤ k1) ∧ Aside0 (Kd.V k34 34 w' w.heap.size (fun k_ => some k_ ≠ (v153 : Value).ownBlock) u5 x5_1) ∧ Aside0 (Kd.R Kd.bool 26 w' w.heap.size (fun _ => True) v153 x6_1) ∧ Aside0 (Below w.heap.size w w'))
                  case atStart => exact ⟨(0), (by first | rfl | (simp; done) | (simp [*]; done) | (simp [bne_nil_]; done)), H', ⟨Nat.le_refl _⟩, ⟨by (with_reducible repeat (first | apply Kd.V_alloc | apply Kd.V_drewN | apply Kd.V_drew)); exact HO_5.out⟩, ⟨by (with_reducible repeat (first | apply Kd.R_alloc | apply Kd.R_drewN | apply Kd.R_drew)); exact HO_6.out⟩, ⟨by repeat (first | (with_reducible first | exact HB.out | apply below_alloc | apply pw_below_drewN | apply below_drew1) | exact HB.out)⟩⟩
                  case round =>
                    clear H'
                    try clear c1
                    try clear p1
                    try clear q1
                    try clear hx1
                    try clear p2
                    try clear c3
                    try clear c3b0
                    try clear c3b1
                    try clear p6
                    try clear c7
                    try clear c7b0
                    try clear c7b1
                    try clear c11
                    try clear c11b0
                    try clear c12
                    try clear c12b0
                    try clear c13
                    try clear c13b0
                    try clear p15
                    try clear q15
                    try clear hx15
                    try clear c16
                    try clear c16b0
                    try clear c17
                    try clear c17b0
                    try clear p18
                    try clear q18
                    try clear hx18
                    try clear hf18
                    try clear hx157_0
                    try clear hx158_0
                    try clear hx18_0
                    try clear p157
                    try clear p158
                    try clear p18
                    try clear p2
                    try clear p6
                    try clear q157
                    try clear q158
                    try clear q18
                    obtain ⟨x9_2, rfl, HA, HK2, HO_5, HO_6, HB⟩ := hrel
                    cases gk with
                    | zero => exact absurd HA.out (by simp [law22_ConnsPlaces.l1])
                    | succ k2 =>
                      have H := HA.out
                      clear HA
                      simp only [law22_ConnsPlaces.l1] at H
                      by_cases c24 : x9_2 < (wrap64 (Int.tmod a1 6))
                      · rw [if_pos c24] at H
                        have c24b0 : decide (x9_2 < (wrap64 (Int.tmod a1 6))) = true := decide_eq_true c24
                        clear c24
                        (first | rw [c24b0] | (simp only [i64_w, i32_w]; rw [c24b0]) | skip)
                        by_cases c25 : 0 ≤ x9_2
                        · rw [if_pos c25] at H
                          have c25b0 : decide (0 ≤ x9_2) = true := decide_eq_true c25
                          clear c25
                          by_cases c26 : x9_2 < (x6_1.length : Int)
                          · rw [if_pos c26] at H
                            have c26b0 : decide (x9_2 < (x6_1.length : Int)) = true := decide_eq_true c26
                            clear c26
                            obtain ⟨bq27, hbq27⟩ : ∃ b_ : Bool, b_ = (rdOf false x6_1 x9_2) := ⟨_, rfl⟩
                            replace H : (if bq27 = true then (law22_ConnsPlaces.l1 k2 l0 a1 x5_1 x6_1 x7_1 (wrap64 (x9_2 + 1))) else (law22_ConnsPlaces.j2 k2 l0 a1 x5_1 x6_1 x7_1 x9_2)) = some r := by rw [← hbq27] at H; exact H
                            have Nbq27 := Aside0.mk hbq27
                            clear hbq27
                            by_cases c28 : bq27 = true
                            · subst c28
                              have H1 : (law22_ConnsPlaces.l1 k2 l0 a1 x5_1 x6_1 x7_1 (wrap64 (x9_2 + 1))) = some r := by rw [if_pos rfl] at H; exact H
                              clear H
                              have H := H1
                              clear H1
                              have H' := Aside0.mk H
                              clear H
                              obtain ⟨Ao29, co29, eo29⟩ := Kd.R_slice HO_6.out
                              subst eo29
                              obtain ⟨ea29_, el29_, ec29_⟩ := Kd.slice_inj HV153.out
                              subst ea29_
                              have el29I_ : ((List.length _ : Nat) : Int) = 6 := congrArg Nat.cast el29_
                              have p163 : 0 ≤ (x9_2 : Int) := of_decide_eq_true (by first | (with_reducible assumption) | assumption)
                              have q163 : x9_2 < (x6_1.length : Int) := of_decide_eq_true (by first | (with_reducible assumption) | assumption)
                              obtain ⟨ad163, e163, hx163_0⟩ := Kd.at_bool (Kd.R_reads' HO_6.out).2.2 x9_2 p163 q163
                              (try rw [← Nbq27.out] at hx163_0)
                              cases e163
                              (try rw [add_plain] at hx163_0)
                              replace p163 := eq_true p163
                              replace q163 := eq_true q163
                              have r163_ : _ < (6 : Int) := Kd.lt_eq (of_eq_true q163) el29I_
                              have r163T_ := eq_true r163_
                              have r163F_ := eq_false (Int.not_le.2 r163_)
                              go_wp2
                              repeat (go_quiet (fail); try go_wp2)
                              go_roundg k2
                              case measure => have := HK1.out; have := HK2.out; omega
                              case rel => exact ⟨(wrap64 (x9_2 + 1)), (by first | rfl | (simp; done) | (simp [*]; done) | (simp [bne_nil_]; done)), H', ⟨by have := HK1.out; have := HK2.out; omega⟩, ⟨by (with_reducible repeat (first | apply Kd.V_alloc | apply Kd.V_drewN | apply Kd.V_drew)); exact HO_5.out⟩, ⟨by (with_reducible repeat (first | apply Kd.R_alloc | apply Kd.R_drewN | apply Kd.R_drew)); exact HO_6.out⟩, ⟨by repeat (first | (with_reducible first | exact HB.out | apply below_alloc | apply pw_below_drewN | apply below_drew1) | exact HB.out)⟩⟩
                            · replace c28 := Bool.eq_false_iff.mpr c28
                              subst c28
                              have H1 : (law22_ConnsPlaces.j2 k2 l0 a1 x5_1 x6_1 x7_1 x9_2) = some r := by rw [if_neg (show ¬ (false = true) by decide)] at H; exact H
                              clear H
                              have H := H1
                              clear H1
                              have H' := Aside0.mk H
                              clear H
                              obtain ⟨Ao30, co30, eo30⟩ := Kd.R_slice HO_6.out
                              subst eo30
                              obtain ⟨ea30_, el30_, ec30_⟩ := Kd.slice_inj HV153.out
                              subst ea30_
                              have el30I_ : ((List.length _ : Nat) : Int) = 6 := congrArg Nat.cast el30_
                              have p163 : 0 ≤ (x9_2 : Int) := of_decide_eq_true (by first | (with_reducible assumption) | assumption)
                              have q163 : x9_2 < (x6_1.length : Int) := of_decide_eq_true (by first | (with_reducible assumption) | assumption)
                              obtain ⟨ad163, e163, hx163_0⟩ := Kd.at_bool (Kd.R_reads' HO_6.out).2.2 x9_2 p163 q163
                              (try rw [← Nbq27.out] at hx163_0)
                              cases e163
                              (try rw [add_plain] at hx163_0)
                              replace p163 := eq_true p163
                              replace q163 := eq_true q163
                              have r163_ : _ < (6 : Int) := Kd.lt_eq (of_eq_true q163) el30I_
                              have r163T_ := eq_true r163_
                              have r163F_ := eq_false (Int.not_le.2 r163_)
                              go_wp2
                              repeat (go_quiet (fail); try go_wp2)
                              go_meet
                              case rel => exact ⟨_, (x9_2), (by first | rfl | (simp; done) | (simp [*]; done) | (simp [bne_nil_]; done)), H', ⟨by have := HK1.out; have := HK2.out; first | omega | exact Nat.le_refl _⟩, ⟨by (with_reducible repeat (first | apply Kd.V_alloc | apply Kd.V_drewN | apply Kd.V_drew)); exact HO_5.out⟩, ⟨by (with_reducible repeat (first | apply Kd.R_alloc | apply Kd.R_drewN | apply Kd.R_drew)); exact HO_6.out⟩, ⟨by repeat (first | (with_reducible first | exact HB.out | apply below_alloc | apply pw_below_drewN | apply below_drew1) | exact HB.out)⟩⟩
                          · rw [if_neg c26] at H
                            exact absurd H (by simp)
                        · rw [if_neg c25] at H
                          exact absurd H (by simp)
                      · rw [if_neg c24] at H
                        have c24b0 : decide (x9_2 < (wrap64 (Int.tmod a1 6))) = false := decide_eq_false c24
                        clear c24
                        (first | rw [c24b0] | (simp only [i64_w, i32_w]; rw [c24b0]) | skip)
                        have H' := Aside0.mk H
                        clear H
                        go_wp2
                        repeat (go_quiet (fail); try go_wp2)
                        go_meet
                        case rel => exact ⟨_, (x9_2), (by first | rfl | (simp; done) | (simp [*]; done) | (simp [bne_nil_]; done)), H', ⟨by have := HK1.out; have := HK2.out; first | omega | exact Nat.le_refl _⟩, ⟨by (with_reducible repeat (first | apply Kd.V_alloc | apply Kd.V_drewN | apply Kd.V_drew)); exact HO_5.out⟩, ⟨by (with_reducible repeat (first | apply Kd.R_alloc | apply Kd.R_drewN | apply Kd.R_drew)); exact HO_6.out⟩, ⟨by repeat (first | (with_reducible first | exact HB.out | apply below_alloc | apply pw_below_drewN | apply below_drew1) | exact HB.out)⟩⟩
                case rest =>
                  clear HC23
                  try clear c1
                  try clear p1
                  try clear q1
                  try clear hx1
                  try clear c2
                  try clear p2
                  try clear q2
                  try clear c3
                  try clear c3b0
                  try clear c3b1
                  try clear p6
                  try clear c7
                  try clear c7b0
                  try clear c7b1
                  try clear c11
                  try clear c11b0
                  try clear c12
                  try clear c12b0
                  try clear c13
                  try clear c13b0
                  try clear p15
                  try clear q15
                  try clear hx15
                  try clear c16
                  try clear c16b0
                  try clear p16
                  try clear q16
                  try clear hx16
                  try clear c17
                  try clear c17b0
                  try clear p18
                  try clear q18
                  try clear hx18
                  try clear hf18
                  try clear c24
                  try clear c24b0
                  try clear c25
                  try clear c25b0
                  try clear c26
                  try clear c26b0
                  try clear q27
                  try clear c28
                  try clear hx157_0
                  try clear hx158_0
                  try clear hx163_0
                  try clear hx18_0
                  try clear p1
                  try clear p15
                  try clear p157
                  try clear p158
                  try clear p163
                  try clear p18
                  try clear p2
                  try clear p6
                  try clear q1
                  try clear q15
                  try clear q157
                  try clear q158
                  try clear q163
                  try clear q18
                  obtain ⟨kq, x9_22, rfl, HA, HJ22, HO_5, HO_6, HB⟩ := hcut
                  cases kq with
                  | zero => exact absurd HA.out (by simp [law22_ConnsPlaces.j2])
                  | succ kj22 =>
                    have H := HA.out
                    clear HA
                    simp only [law22_ConnsPlaces.j2] at H
                    by_cases c31 : 0 ≤ x7_1
                    · rw [if_pos c31] at H
                      have c31b0 : decide (0 ≤ x7_1) = true := decide_eq_true c31
                      clear c31
                      by_cases c32 : x7_1 < (l0.length : Int)
                      · rw [if_pos c32] at H
                        have c32b0 : decide (x7_1 < (l0.length : Int)) = true := decide_eq_true c32
                        clear c32
                        replace H := Option.bind_eq_some_iff.mp H
                        obtain ⟨⟨t165, t168, t169⟩, A330, H⟩ := H
                        replace H : (if (t169 != (decide (x9_22 < (wrap64 (Int.tmod a1 6))))) = true then (law22_ConnsPlaces.j3 kj22 l0 a1 x6_1 x7_1 t165 t168 t169 true) else (if t169 = true then (if t168 = x9_22 then (if 0 ≤ t168 then (if t168 < (t165.length : Int) then (if ((rd_T34 t165 t168).f1) = (wrap64 (rd l0 x7_1)) then (law22_ConnsPlaces.j3 kj22 l0 a1 x6_1 x7_1 t165 t168 t169 ((t165.length : Int) != (wrap64 (Int.tmod a1 6)))) else (law22_ConnsPlaces.j3 kj22 l0 a1 x6_1 x7_1 t165 t168 t169 true)) else (none)) else (none)) else (law22_ConnsPlaces.j3 kj22 l0 a1 x6_1 x7_1 t165 t168 t169 true)) else (law22_ConnsPlaces.j3 kj22 l0 a1 x6_1 x7_1 t165 t168 t169 ((t165.length : Int) != (wrap64 (Int.tmod a1 6)))))) = some r := H
                        have A33 := Aside0.mk A330
                        clear A330
                        have HC34 := Aside0.mk H
                        clear H
                        have p164 : 0 ≤ (x7_1 : Int) := of_decide_eq_true (by first | (with_reducible assumption) | assumption)
                        have q164 : x7_1 < (l0.length : Int) := of_decide_eq_true (by first | (with_reducible assumption) | assumption)
                        obtain ⟨ad164, e164, hx164_0⟩ := Kd.at_int HR0.out x7_1 p164 q164
                        obtain rfl : ad157 = ad164 := (by injection e164)
                        replace hx164_0 := (HB.out.cell (World.block_lt_of_cell? w _ hx164_0)).trans hx164_0
                        replace p164 := eq_true p164
                        replace q164 := eq_true q164
                        obtain ⟨Ao35, co35, eo35⟩ := Kd.V_slice HO_5.out
                        subst eo35
                        go_upto_region 16 with (first | (go_at_call 8; (with_reducible refine (conns_Accept.calls kj22 (fun k_ => some k_ ≠ (v153 : Value).ownBlock) _ _ x5_1 (wrap64 (rd l0 x7_1)) t165 t168 t169 _ ?side1 A33.out).mono ?_); (case side1 => exact HO_5.out); rintro e w36 ⟨v166, rfl, ho0, hb⟩; have n0_ := Aside0.mk (Kd.V_below (by (with_reducible repeat (first | apply Kd.V_alloc | apply Kd.V_drewN | apply Kd.V_drew)); exact HO_5.out) hb); have n1_ := Aside0.mk (Kd.R_below (by (with_reducible repeat (first | apply Kd.R_alloc | apply Kd.R_drewN | apply Kd.R_drew)); exact HO_6.out) hb); have n2_ := Aside0.mk (Kd.V_lower (Kd.V_mono (ok' := fun k_ => some k_ ≠ (v153 : Value).ownBlock) ho0 (fun k_ hk_ => Or.elim hk_ (fun hs_ => hs_) (fun hn_ => (Kd.fresh' (Kd.R_lt (by (with_reducible repeat (first | apply Kd.R_alloc | apply Kd.R_drewN | apply Kd.R_drew)); exact HO_6.out)) k_ hn_)))) (below_size (by repeat (first | (with_reducible first | exact HB.out | apply below_alloc | apply pw_below_drewN | apply below_drew1) | exact HB.out)))); have n3_ := Aside0.mk (below_step (by repeat (first | (with_reducible first | exact HB.out | apply below_alloc | apply pw_below_drewN | apply below_drew1) | exact HB.out)) hb); clear HO_5; clear HO_6; clear HB; have HO_5 := n0_; have HO_6 := n1_; have HO167 := n2_; have HB := n3_; clear n0_ n1_ n2_ n3_; (try clear hb); (try clear hb2); (try clear hk); (try clear hi); (try clear ho0)))
                        repeat (go_quiet (first | (go_at_call 8; (with_reducible refine (conns_Accept.calls kj22 (fun k_ => some k_ ≠ (v153 : Value).ownBlock) _ _ x5_1 (wrap64 (rd l0 x7_1)) t165 t168 t169 _ ?side1 A33.out).mono ?_); (case side1 => exact HO_5.out); rintro e w36 ⟨v166, rfl, ho0, hb⟩; have n0_ := Aside0.mk (Kd.V_below (by (with_reducible repeat (first | apply Kd.V_alloc | apply Kd.V_drewN | apply Kd.V_drew)); exact HO_5.out) hb); have n1_ := Aside0.mk (Kd.R_below (by (with_reducible repeat (first | apply Kd.R_alloc | apply Kd.R_drewN | apply Kd.R_drew)); exact HO_6.out) hb); have n2_ := Aside0.mk (Kd.V_lower (Kd.V_mono (ok' := fun k_ => some k_ ≠ (v153 : Value).ownBlock) ho0 (fun k_ hk_ => Or.elim hk_ (fun hs_ => hs_) (fun hn_ => (Kd.fresh' (Kd.R_lt (by (with_reducible repeat (first | apply Kd.R_alloc | apply Kd.R_drewN | apply Kd.R_drew)); exact HO_6.out)) k_ hn_)))) (below_size (by repeat (first | (with_reducible first | exact HB.out | apply below_alloc | apply pw_below_drewN | apply below_drew1) | exact HB.out)))); have n3_ := Aside0.mk (below_step (by repeat (first | (with_reducible first | exact HB.out | apply below_alloc | apply pw_below_drewN | apply below_drew1) | exact HB.out)) hb); clear HO_5; clear HO_6; clear HB; have HO_5 := n0_; have HO_6 := n1_; have HO167 := n2_; have HB := n3_; clear n0_ n1_ n2_ n3_; (try clear hb); (try clear hb2); (try clear hk); (try clear hi); (try clear ho0))); go_upto_region 16 with (first | (go_at_call 8; (with_reducible refine (conns_Accept.calls kj22 (fun k_ => some k_ ≠ (v153 : Value).ownBlock) _ _ x5_1 (wrap64 (rd l0 x7_1)) t165 t168 t169 _ ?side1 A33.out).mono ?_); (case side1 => exact HO_5.out); rintro e w36 ⟨v166, rfl, ho0, hb⟩; have n0_ := Aside0.mk (Kd.V_below (by (with_reducible repeat (first | apply Kd.V_alloc | apply Kd.V_drewN | apply Kd.V_drew)); exact HO_5.out) hb); have n1_ := Aside0.mk (Kd.R_below (by (with_reducible repeat (first | apply Kd.R_alloc | apply Kd.R_drewN | apply Kd.R_drew)); exact HO_6.out) hb); have n2_ := Aside0.mk (Kd.V_lower (Kd.V_mono (ok' := fun k_ => some k_ ≠ (v153 : Value).ownBlock) ho0 (fun k_ hk_ => Or.elim hk_ (fun hs_ => hs_) (fun hn_ => (Kd.fresh' (Kd.R_lt (by (with_reducible repeat (first | apply Kd.R_alloc | apply Kd.R_drewN | apply Kd.R_drew)); exact HO_6.out)) k_ hn_)))) (below_size (by repeat (first | (with_reducible first | exact HB.out | apply below_alloc | apply pw_below_drewN | apply below_drew1) | exact HB.out)))); have n3_ := Aside0.mk (below_step (by repeat (first | (with_reducible first | exact HB.out | apply below_alloc | apply pw_below_drewN | apply below_drew1) | exact HB.out)) hb); clear HO_5; clear HO_6; clear HB; have HO_5 := n0_; have HO_6 := n1_; have HO167 := n2_; have HB := n3_; clear n0_ n1_ n2_ n3_; (try clear hb); (try clear hb2); (try clear hk); (try clear hi); (try clear ho0))))
                        (try simp only [Act.put, List.setIfInBounds_toArray, List.set_cons_zero, List.set_cons_succ])
                        go_cut [103] (fun v103 wc => ∃ (kq : Nat) (x103_33 : Bool), v103 = .bool x103_33 ∧ Aside0 (law22_ConnsPlaces.j3 kq l0 a1 x6_1 x7_1 t165 t168 t169 x103_33 = some r) ∧ Aside0 (kq ≤ kj22) ∧ Aside0 (Kd.R Kd.bool 26 wc w.heap.size (fun _ => True) v153 x6_1) ∧ Aside0 (Kd.V k34 34 wc w.heap.size (fun k_ => some k_ ≠ (v153 : Value).ownBlock) v166 t165) ∧ Aside0 (Below w.heap.size w wc))
                        case first =>
                          have H := HC34.out
                          clear HC34
                          by_cases c37 : (t169 != (decide (x9_22 < (wrap64 (Int.tmod a1 6))))) = true
                          · rw [if_pos c37] at H
                            have c37b0 : (t169 != (decide (x9_22 < (wrap64 (Int.tmod a1 6))))) = true := c37
                            (try (have c37b1 : decide (t169 = (decide (x9_22 < (wrap64 (Int.tmod a1 6))))) = false := by simpa using c37))
                            (try (have c37b2 : (t169 == (decide (x9_22 < (wrap64 (Int.tmod a1 6))))) = false := by simpa using c37))
                            (try (have c37b3 : ¬ (t169 = (decide (x9_22 < (wrap64 (Int.tmod a1 6))))) := by simpa using c37))
                            clear c37
                            (first | rw [c37b0] | (simp only [i64_w, i32_w]; rw [c37b0]) | skip)
                            have H' := Aside0.mk H
                            clear H
                            go_wp2
                            repeat (go_quiet (fail); try go_wp2)
                            go_meet
                            case rel => exact ⟨_, (true), (by first | rfl | (simp; done) | (simp [*]; done) | (simp [bne_nil_]; done)), H', ⟨by have := HK1.out; have := HJ22.out; first | omega | exact Nat.le_refl _⟩, ⟨by (with_reducible repeat (first | apply Kd.R_alloc | apply Kd.R_drewN | apply Kd.R_drew)); exact HO_6.out⟩, ⟨by (with_reducible repeat (first | apply Kd.V_alloc | apply Kd.V_drewN | apply Kd.V_drew)); exact HO167.out⟩, ⟨by repeat (first | (with_reducible first | exact HB.out | apply below_alloc | apply pw_below_drewN | apply below_drew1) | exact HB.out)⟩⟩
                          · rw [if_neg c37] at H
                            have c37b0 : (t169 != (decide (x9_22 < (wrap64 (Int.tmod a1 6))))) = false := by simpa using c37
                            (try (have c37b1 : decide (t169 = (decide (x9_22 < (wrap64 (Int.tmod a1 6))))) = true := by simpa using c37))
                            (try (have c37b2 : (t169 == (decide (x9_22 < (wrap64 (Int.tmod a1 6))))) = true := by simpa using c37))
                            clear c37
                            (first | rw [c37b0] | (simp only [i64_w, i32_w]; rw [c37b0]) | skip)
                            by_cases c38 : t169 = true
                            · subst c38
                              have H1 : (if t168 = x9_22 then (if 0 ≤ t168 then (if t168 < (t165.length : Int) then (if ((rd_T34 t165 t168).f1) = (wrap64 (rd l0 x7_1)) then (law22_ConnsPlaces.j3 kj22 l0 a1 x6_1 x7_1 t165 t168 true ((t165.length : Int) != (wrap64 (Int.tmod a1 6)))) else (law22_ConnsPlaces.j3 kj22 l0 a1 x6_1 x7_1 t165 t168 true true)) else (none)) else (none)) else (law22_ConnsPlaces.j3 kj22 l0 a1 x6_1 x7_1 t165 t168 true true)) = some r := by rw [if_pos rfl] at H; exact H
                              clear H
                              have H := H1
                              clear H1
                              by_cases c39 : t168 = x9_22
                              · rw [if_pos c39] at H
                                have c39b0 : (t168 == x9_22) = true := beq_iff_eq.mpr c39
                                have c39b1 : (t168 != x9_22) = false := bne_eq_false_iff_eq.mpr c39
                                clear c39
                                by_cases c40 : 0 ≤ t168
                                · rw [if_pos c40] at H
                                  have c40b0 : decide (0 ≤ t168) = true := decide_eq_true c40
                                  clear c40
                                  by_cases c41 : t168 < (t165.length : Int)
                                  · rw [if_pos c41] at H
                                    have c41b0 : decide (t168 < (t165.length : Int)) = true := decide_eq_true c41
                                    clear c41
                                    by_cases c42 : ((rd_T34 t165 t168).f1) = (wrap64 (rd l0 x7_1))
                                    · rw [if_pos c42] at H
                                      have c42b0 : (((rd_T34 t165 t168).f1) == (wrap64 (rd l0 x7_1))) = true := beq_iff_eq.mpr c42
                                      have c42b1 : (((rd_T34 t165 t168).f1) != (wrap64 (rd l0 x7_1))) = false := bne_eq_false_iff_eq.mpr c42
                                      clear c42
                                      have H' := Aside0.mk H
                                      clear H
                                      obtain ⟨Ao43, co43, eo43⟩ := Kd.V_slice HO167.out
                                      subst eo43
                                      have p170 : 0 ≤ (t168 : Int) := of_decide_eq_true (by first | (with_reducible assumption) | assumption)
                                      have q170 : t168 < (t165.length : Int) := of_decide_eq_true (by first | (with_reducible assumption) | assumption)
                                      obtain ⟨ad170, e170, hx170_0, hx170_1, hx170_2, hx170_3, hx170_4⟩ := at_T34 (Kd.V_reads' HO167.out).2.2 t168 p170 q170
                                      cases e170
                                      replace p170 := eq_true p170
                                      replace q170 := eq_true q170
                                      have p171 : 0 ≤ (x7_1 : Int) := of_decide_eq_true (by first | (with_reducible assumption) | assumption)
                                      have q171 : x7_1 < (l0.length : Int) := of_decide_eq_true (by first | (with_reducible assumption) | assumption)
                                      obtain ⟨ad171, e171, hx171_0⟩ := Kd.at_int HR0.out x7_1 p171 q171
                                      obtain rfl : ad157 = ad171 := (by injection e171)
                                      replace hx171_0 := (HB.out.cell (World.block_lt_of_cell? w _ hx171_0)).trans hx171_0
                                      replace p171 := eq_true p171
                                      replace q171 := eq_true q171
                                      go_wp2
                                      repeat (go_quiet (fail); try go_wp2)
                                      go_meet
                                      case rel => exact ⟨_, (((t165.length : Int) != (wrap64 (Int.tmod a1 6)))), (by first | rfl | (simp; done) | (simp [*]; done) | (simp [bne_nil_]; done)), H', ⟨by have := HK1.out; have := HJ22.out; first | omega | exact Nat.le_refl _⟩, ⟨by (with_reducible repeat (first | apply Kd.R_alloc | apply Kd.R_drewN | apply Kd.R_drew)); exact HO_6.out⟩, ⟨by (with_reducible repeat (first | apply Kd.V_alloc | apply Kd.V_drewN | apply Kd.V_drew)); exact HO167.out⟩, ⟨by repeat (first | (with_reducible first | exact HB.out | apply below_alloc | apply pw_below_drewN | apply below_drew1) | exact HB.out)⟩⟩
                                    · rw [if_neg c42] at H
                                      have c42b0 : (((rd_T34 t165 t168).f1) == (wrap64 (rd l0 x7_1))) = false := beq_eq_false_iff_ne.mpr c42
                                      have c42b1 : (((rd_T34 t165 t168).f1) != (wrap64 (rd l0 x7_1))) = true := bne_iff_ne.mpr c42
                                      have H' := Aside0.mk H
                                      clear H
                                      obtain ⟨Ao44, co44, eo44⟩ := Kd.V_slice HO167.out
                                      subst eo44
                                      have p170 : 0 ≤ (t168 : Int) := of_decide_eq_true (by first | (with_reducible assumption) | assumption)
                                      have q170 : t168 < (t165.length : Int) := of_decide_eq_true (by first | (with_reducible assumption) | assumption)
                                      obtain ⟨ad170, e170, hx170_0, hx170_1, hx170_2, hx170_3, hx170_4⟩ := at_T34 (Kd.V_reads' HO167.out).2.2 t168 p170 q170
                                      cases e170
                                      replace p170 := eq_true p170
                                      replace q170 := eq_true q170
                                      have p171 : 0 ≤ (x7_1 : Int) := of_decide_eq_true (by first | (with_reducible assumption) | assumption)
                                      have q171 : x7_1 < (l0.length : Int) := of_decide_eq_true (by first | (with_reducible assumption) | assumption)
                                      obtain ⟨ad171, e171, hx171_0⟩ := Kd.at_int HR0.out x7_1 p171 q171
                                      obtain rfl : ad157 = ad171 := (by injection e171)
                                      replace hx171_0 := (HB.out.cell (World.block_lt_of_cell? w _ hx171_0)).trans hx171_0
                                      replace p171 := eq_true p171
                                      replace q171 := eq_true q171
                                      go_wp2
                                      repeat (go_quiet (fail); try go_wp2)
                                      go_meet
                                      case rel => exact ⟨_, (true), (by first | rfl | (simp; done) | (simp [*]; done) | (simp [bne_nil_]; done)), H', ⟨by have := HK1.out; have := HJ22.out; first | omega | exact Nat.le_refl _⟩, ⟨by (with_reducible repeat (first | apply Kd.R_alloc | apply Kd.R_drewN | apply Kd.R_drew)); exact HO_6.out⟩, ⟨by (with_reducible repeat (first | apply Kd.V_alloc | apply Kd.V_drewN | apply Kd.V_drew)); exact HO167.out⟩, ⟨by repeat (first | (with_reducible first | exact HB.out | apply below_alloc | apply pw_below_drewN | apply below_drew1) | exact HB.out)⟩⟩
                                  · rw [if_neg c41] at H
                                    exact absurd H (by simp)
                                · rw [if_neg c40] at H
                                  exact absurd H (by simp)
                              · rw [if_neg c39] at H
                                have c39b0 : (t168 == x9_22) = false := beq_eq_false_iff_ne.mpr c39
                                have c39b1 : (t168 != x9_22) = true := bne_iff_ne.mpr c39
                                have H' := Aside0.mk H
                                clear H
                                go_wp2
                                repeat (go_quiet (fail); try go_wp2)
                                go_meet
                                case rel => exact ⟨_, (true), (by first | rfl | (simp; done) | (simp [*]; done) | (simp [bne_nil_]; done)), H', ⟨by have := HK1.out; have := HJ22.out; first | omega | exact Nat.le_refl _⟩, ⟨by (with_reducible repeat (first | apply Kd.R_alloc | apply Kd.R_drewN | apply Kd.R_drew)); exact HO_6.out⟩, ⟨by (with_reducible repeat (first | apply Kd.V_alloc | apply Kd.V_drewN | apply Kd.V_drew)); exact HO167.out⟩, ⟨by repeat (first | (with_reducible first | exact HB.out | apply below_alloc | apply pw_below_drewN | apply below_drew1) | exact HB.out)⟩⟩
                            · replace c38 := Bool.eq_false_iff.mpr c38
                              subst c38
                              have H1 : (law22_ConnsPlaces.j3 kj22 l0 a1 x6_1 x7_1 t165 t168 false ((t165.length : Int) != (wrap64 (Int.tmod a1 6)))) = some r := by rw [if_neg (show ¬ (false = true) by decide)] at H; exact H
                              clear H
                              have H := H1
                              clear H1
                              have H' := Aside0.mk H
                              clear H
                              obtain ⟨Ao45, co45, eo45⟩ := Kd.V_slice HO167.out
                              subst eo45
                              go_wp2
                              repeat (go_quiet (fail); try go_wp2)
                              go_meet
                              case rel => exact ⟨_, (((t165.length : Int) != (wrap64 (Int.tmod a1 6)))), (by first | rfl | (simp; done) | (simp [*]; done) | (simp [bne_nil_]; done)), H', ⟨by have := HK1.out; have := HJ22.out; first | omega | exact Nat.le_refl _⟩, ⟨by (with_reducible repeat (first | apply Kd.R_alloc | apply Kd.R_drewN | apply Kd.R_drew)); exact HO_6.out⟩, ⟨by (with_reducible repeat (first | apply Kd.V_alloc | apply Kd.V_drewN | apply Kd.V_drew)); exact HO167.out⟩, ⟨by repeat (first | (with_reducible first | exact HB.out | apply below_alloc | apply pw_below_drewN | apply below_drew1) | exact HB.out)⟩⟩
                        case rest =>
                          clear HC34
                          try clear c1
                          try clear p1
                          try clear q1
                          try clear hx1
                          try clear c2
                          try clear p2
                          try clear q2
                          try clear c3
                          try clear c3b0
                          try clear c3b1
                          try clear c4
                          try clear p6
                          try clear c7
                          try clear c7b0
                          try clear c7b1
                          try clear c11
                          try clear c11b0
                          try clear c12
                          try clear c12b0
                          try clear c13
                          try clear c13b0
                          try clear p15
                          try clear q15
                          try clear hx15
                          try clear c16
                          try clear c16b0
                          try clear p16
                          try clear q16
                          try clear hx16
                          try clear c17
                          try clear c17b0
                          try clear p17
                          try clear q17
                          try clear hx17
                          try clear p18
                          try clear q18
                          try clear hx18
                          try clear hf18
                          try clear c24
                          try clear c24b0
                          try clear c25
                          try clear c25b0
                          try clear c26
                          try clear c26b0
                          try clear q27
                          try clear c28
                          try clear c31
                          try clear c31b0
                          try clear c32
                          try clear c32b0
                          try clear c37
                          try clear c37b0
                          try clear c37b1
                          try clear c37b2
                          try clear c38
                          try clear c39
                          try clear c39b0
                          try clear c39b1
                          try clear c40
                          try clear c40b0
                          try clear c41
                          try clear c41b0
                          try clear c42
                          try clear c42b0
                          try clear c42b1
                          try clear hx157_0
                          try clear hx158_0
                          try clear hx163_0
                          try clear hx164_0
                          try clear hx170_0
                          try clear hx170_1
                          try clear hx170_2
                          try clear hx170_3
                          try clear hx170_4
                          try clear hx171_0
                          try clear hx18_0
                          try clear p1
                          try clear p15
                          try clear p157
                          try clear p158
                          try clear p16
                          try clear p163
                          try clear p164
                          try clear p170
                          try clear p171
                          try clear p18
                          try clear p2
                          try clear p6
                          try clear q1
                          try clear q15
                          try clear q157
                          try clear q158
                          try clear q16
                          try clear q163
                          try clear q164
                          try clear q170
                          try clear q171
                          try clear q18
                          try clear q2
                          try clear q27
                          obtain ⟨kq, x103_33, rfl, HA, HJ33, HO_6, HO_10, HB⟩ := hcut
                          cases kq with
                          | zero => exact absurd HA.out (by simp [law22_ConnsPlaces.j3])
                          | succ kj33 =>
                            have H := HA.out
                            clear HA
                            simp only [law22_ConnsPlaces.j3] at H
                            by_cases c46 : x103_33 = true
                            · subst c46
                              have H1 : (none) = some r := by rw [if_pos rfl] at H; exact H
                              clear H
                              have H := H1
                              clear H1
                              exact absurd H (by simp)
                            · replace c46 := Bool.eq_false_iff.mpr c46
                              subst c46
                              have H1 : (if t169 = true then (if 0 ≤ t168 then (if t168 < (x6_1.length : Int) then (law22_ConnsPlaces.j4 kj33 l0 a1 (x6_1.set (t168 : Int).toNat true) x7_1 t165) else (none)) else (none)) else (law22_ConnsPlaces.j4 kj33 l0 a1 x6_1 x7_1 t165)) = some r := by rw [if_neg (show ¬ (false = true) by decide)] at H; exact H
                              clear H
                              have H := H1
                              clear H1
                              have HC47 := Aside0.mk H
                              clear H
                              go_upto_if 104 with (fail)
                              repeat (go_quiet (fail); go_upto_if 104 with (fail))
                              go_cut [] (fun wc => ∃ (kq : Nat) (x6_46 : List Bool), Aside0 (law22_ConnsPlaces.j4 kq l0 a1 x6_46 x7_1 t165 = some r) ∧ Aside0 (kq ≤ kj33) ∧ Aside0 (Kd.R Kd.bool 26 wc w.heap.size (fun _ => True) v153 x6_46) ∧ Aside0 (Kd.V k34 34 wc w.heap.size (fun k_ => some k_ ≠ (v153 : Value).ownBlock) v166 t165) ∧ Aside0 (Below w.heap.size w wc))
                              case first =>
                                have H := HC47.out
                                clear HC47
                                by_cases c48 : t169 = true
                                · subst c48
                                  have H1 : (if 0 ≤ t168 then (if t168 < (x6_1.length : Int) then (law22_ConnsPlaces.j4 kj33 l0 a1 (x6_1.set (t168 : Int).toNat true) x7_1 t165) else (none)) else (none)) = some r := by rw [if_pos rfl] at H; exact H
                                  clear H
                                  have H := H1
                                  clear H1
                                  by_cases c49 : 0 ≤ t168
                                  · rw [if_pos c49] at H
                                    have c49b0 : decide (0 ≤ t168) = true := decide_eq_true c49
                                    clear c49
                                    (first | rw [c49b0] | (simp only [i64_w, i32_w]; rw [c49b0]) | skip)
                                    by_cases c50 : t168 < (x6_1.length : Int)
                                    · rw [if_pos c50] at H
                                      have c50b0 : decide (t168 < (x6_1.length : Int)) = true := decide_eq_true c50
                                      clear c50
                                      obtain ⟨y172, hy172⟩ : ∃ y_ : List Bool, y_ = (x6_1.set (t168 : Int).toNat true) := ⟨_, rfl⟩
                                      replace H : (law22_ConnsPlaces.j4 kj33 l0 a1 y172 x7_1 t165) = some r := by first | (rw [hy172]; with_reducible exact H) | (have H2_ := (Option.bind_some _ _).symm.trans H; rw [hy172]; with_reducible exact H2_) | (have H2_ := (Option.bind_some _ _).symm.trans H; with_reducible exact H2_) | with_reducible exact H | (rw [hy172]; exact H) | exact H
                                      have Ny172 := Aside0.mk hy172
                                      clear hy172
                                      have H' := Aside0.mk H
                                      clear H
                                      have p51 : 0 ≤ (t168 : Int) := of_decide_eq_true (by first | (with_reducible assumption) | assumption)
                                      have q51 : (t168 : Int) < ((x6_1.length : Int) : Int) := of_decide_eq_true (by first | (with_reducible assumption) | assumption)
                                      obtain ⟨go51, co51, eo51, gb51, gl51, cl51, HG51⟩ := Kd.R_form HO_6.out (by omega)
                                      cases eo51
                                      obtain ⟨ea51_, el51_, ec51_⟩ := Kd.slice_inj HV153.out
                                      have eg51_ : go51 = gb153 := (by injection ea51_ with h_; injection h_)
                                      subst eg51_
                                      have el51I_ : ((List.length _ : Nat) : Int) = 6 := congrArg Nat.cast el51_
                                      have GB51 := Aside0.mk gb51
                                      have GG51 := Aside0.mk HG51
                                      clear gb51 gl51 HG51
                                      obtain ⟨hx51_0, hf51_0⟩ := Kd.R_celln false HO_6.out (t168 : Int) p51 q51
                                      replace p51 := eq_true p51
                                      replace q51 := eq_true q51
                                      have r51_ : _ < (6 : Int) := Kd.lt_eq (of_eq_true q51) el51I_
                                      have r51T_ := eq_true r51_
                                      have r51F_ := eq_false (Int.not_le.2 r51_)
                                      have HP52 := Kd.R_putg HO_6.out (t168 : Int) true
                                      go_wp2_with (first | ((with_reducible refine gate_store (t := 4) (p := 106) rfl ?_); (try (rw [drewN_self wc]; generalize hq_ : World.drewN wc _ = wc; have n0_ := Aside0.mk (Kd.R_at hq_ HO_6.out); have n1_ := Aside0.mk (Kd.V_at hq_ HO_10.out); have n2_ := Aside0.mk (below_at hq_ HB.out); clear hq_ HO_6 HO_10 HB; have HO_6 := n0_; have HO_10 := n1_; have HB := n2_; clear n0_ n1_ n2_; (try (have HP52 := Kd.R_putg HO_6.out (t168 : Int) true)))); refine store_event (t := 4) (p := 106) (v := ?vo_w53) (w1 := (wc.setCell ⟨go51, (t168 : Int).toNat, none⟩ (.bool true))) ?hg ?ho ?hn ?hr ?_; (case ho => rfl); (case hg => rfl); (case hn => rfl); (case hr => first | (go_simp; done) | (go_simp; rfl)); intro w53 hw; have hg : wc.grownBy w53 (some go51) := (by rw [hw]; exact HP52.2); have hp_ : Kd.R Kd.bool 26 w53 w.heap.size (fun _ => True) (.slice (some ⟨go51, 0, none⟩) x6_1.length co51) y172 := (by rw [hw, Ny172.out]; exact HP52.1); clear HP52; have n0_ := Aside0.mk (hp_); have n1_ := Aside0.mk (Kd.V_afterv (v := (.slice (some ⟨go51, 0, none⟩) x6_1.length co51)) (v1 := (.slice (some ⟨go51, 0, none⟩) x6_1.length co51)) (ok := (fun _ => True)) (by (with_reducible repeat (first | apply Kd.V_alloc | apply Kd.V_drewN | apply Kd.V_drew)); exact Kd.V_mono HO_10.out (fun _ hk => ⟨trivial, hk⟩)) hg (.inl rfl)); have n2_ := Aside0.mk ((by rw [hw]; exact below_set (HB.out) GB51.out : Below w.heap.size w w53)); clear HO_6; clear HO_10; clear HB; have HO_6 := n0_; have HO_10 := n1_; have HB := n2_; clear n0_ n1_ n2_; clear hg hw hp_))
                                      repeat (go_quiet (first | ((with_reducible refine gate_store (t := 4) (p := 106) rfl ?_); (try (rw [drewN_self wc]; generalize hq_ : World.drewN wc _ = wc; have n0_ := Aside0.mk (Kd.R_at hq_ HO_6.out); have n1_ := Aside0.mk (Kd.V_at hq_ HO_10.out); have n2_ := Aside0.mk (below_at hq_ HB.out); clear hq_ HO_6 HO_10 HB; have HO_6 := n0_; have HO_10 := n1_; have HB := n2_; clear n0_ n1_ n2_; (try (have HP52 := Kd.R_putg HO_6.out (t168 : Int) true)))); refine store_event (t := 4) (p := 106) (v := ?vo_w53) (w1 := (wc.setCell ⟨go51, (t168 : Int).toNat, none⟩ (.bool true))) ?hg ?ho ?hn ?hr ?_; (case ho => rfl); (case hg => rfl); (case hn => rfl); (case hr => first | (go_simp; done) | (go_simp; rfl)); intro w53 hw; have hg : wc.grownBy w53 (some go51) := (by rw [hw]; exact HP52.2); have hp_ : Kd.R Kd.bool 26 w53 w.heap.size (fun _ => True) (.slice (some ⟨go51, 0, none⟩) x6_1.length co51) y172 := (by rw [hw, Ny172.out]; exact HP52.1); clear HP52; have n0_ := Aside0.mk (hp_); have n1_ := Aside0.mk (Kd.V_afterv (v := (.slice (some ⟨go51, 0, none⟩) x6_1.length co51)) (v1 := (.slice (some ⟨go51, 0, none⟩) x6_1.length co51)) (ok := (fun _ => True)) (by (with_reducible repeat (first | apply Kd.V_alloc | apply Kd.V_drewN | apply Kd.V_drew)); exact Kd.V_mono HO_10.out (fun _ hk => ⟨trivial, hk⟩)) hg (.inl rfl)); have n2_ := Aside0.mk ((by rw [hw]; exact below_set (HB.out) GB51.out : Below w.heap.size w w53)); clear HO_6; clear HO_10; clear HB; have HO_6 := n0_; have HO_10 := n1_; have HB := n2_; clear n0_ n1_ n2_; clear hg hw hp_)); try go_wp2_with (first | ((with_reducible refine gate_store (t := 4) (p := 106) rfl ?_); (try (rw [drewN_self wc]; generalize hq_ : World.drewN wc _ = wc; have n0_ := Aside0.mk (Kd.R_at hq_ HO_6.out); have n1_ := Aside0.mk (Kd.V_at hq_ HO_10.out); have n2_ := Aside0.mk (below_at hq_ HB.out); clear hq_ HO_6 HO_10 HB; have HO_6 := n0_; have HO_10 := n1_; have HB := n2_; clear n0_ n1_ n2_; (try (have HP52 := Kd.R_putg HO_6.out (t168 : Int) true)))); refine store_event (t := 4) (p := 106) (v := ?vo_w53) (w1 := (wc.setCell ⟨go51, (t168 : Int).toNat, none⟩ (.bool true))) ?hg ?ho ?hn ?hr ?_; (case ho => rfl); (case hg => rfl); (case hn => rfl); (case hr => first | (go_simp; done) | (go_simp; rfl)); intro w53 hw; have hg : wc.grownBy w53 (some go51) := (by rw [hw]; exact HP52.2); have hp_ : Kd.R Kd.bool 26 w53 w.heap.size (fun _ => True) (.slice (some ⟨go51, 0, none⟩) x6_1.length co51) y172 := (by rw [hw, Ny172.out]; exact HP52.1); clear HP52; have n0_ := Aside0.mk (hp_); have n1_ := Aside0.mk (Kd.V_afterv (v := (.slice (some ⟨go51, 0, none⟩) x6_1.length co51)) (v1 := (.slice (some ⟨go51, 0, none⟩) x6_1.length co51)) (ok := (fun _ => True)) (by (with_reducible repeat (first | apply Kd.V_alloc | apply Kd.V_drewN | apply Kd.V_drew)); exact Kd.V_mono HO_10.out (fun _ hk => ⟨trivial, hk⟩)) hg (.inl rfl)); have n2_ := Aside0.mk ((by rw [hw]; exact below_set (HB.out) GB51.out : Below w.heap.size w w53)); clear HO_6; clear HO_10; clear HB; have HO_6 := n0_; have HO_10 := n1_; have HB := n2_; clear n0_ n1_ n2_; clear hg hw hp_)))
                                      go_meet
                                      case rel => exact ⟨_, (y172), H', ⟨by have := HK1.out; have := HJ22.out; have := HJ33.out; first | omega | exact Nat.le_refl _⟩, ⟨by (with_reducible repeat (first | apply Kd.R_alloc | apply Kd.R_drewN | apply Kd.R_drew)); exact HO_6.out⟩, ⟨by (with_reducible repeat (first | apply Kd.V_alloc | apply Kd.V_drewN | apply Kd.V_drew)); exact Kd.V_mono HO_10.out (fun _ hk => hk.2)⟩, ⟨by repeat (first | (with_reducible first | exact HB.out | apply below_alloc | apply pw_below_drewN | apply below_drew1) | exact HB.out)⟩⟩
                                    · rw [if_neg c50] at H
                                      exact absurd H (by simp)
                                  · rw [if_neg c49] at H
                                    exact absurd H (by simp)
                                · replace c48 := Bool.eq_false_iff.mpr c48
                                  subst c48
                                  have H1 : (law22_ConnsPlaces.j4 kj33 l0 a1 x6_1 x7_1 t165) = some r := by rw [if_neg (show ¬ (false = true) by decide)] at H; exact H
                                  clear H
                                  have H := H1
                                  clear H1
                                  have H' := Aside0.mk H
                                  clear H
                                  go_wp2
                                  repeat (go_quiet (fail); try go_wp2)
                                  go_meet
                                  case rel => exact ⟨_, (x6_1), H', ⟨by have := HK1.out; have := HJ22.out; have := HJ33.out; first | omega | exact Nat.le_refl _⟩, ⟨by (with_reducible repeat (first | apply Kd.R_alloc | apply Kd.R_drewN | apply Kd.R_drew)); exact HO_6.out⟩, ⟨by (with_reducible repeat (first | apply Kd.V_alloc | apply Kd.V_drewN | apply Kd.V_drew)); exact HO_10.out⟩, ⟨by repeat (first | (with_reducible first | exact HB.out | apply below_alloc | apply pw_below_drewN | apply below_drew1) | exact HB.out)⟩⟩
                              case rest =>
                                clear HC47
                                try clear c1
                                try clear p1
                                try clear q1
                                try clear hx1
                                try clear c2
                                try clear p2
                                try clear q2
                                try clear c3
                                try clear c3b0
                                try clear c3b1
                                try clear c4
                                try clear c5
                                try clear p5
                                try clear q5
                                try clear hx5
                                try clear hf5
                                try clear p6
                                try clear c7
                                try clear c7b0
                                try clear c7b1
                                try clear c11
                                try clear c11b0
                                try clear c12
                                try clear c12b0
                                try clear c13
                                try clear c13b0
                                try clear p15
                                try clear q15
                                try clear hx15
                                try clear c16
                                try clear c16b0
                                try clear p16
                                try clear q16
                                try clear hx16
                                try clear c17
                                try clear c17b0
                                try clear p17
                                try clear q17
                                try clear hx17
                                try clear p18
                                try clear q18
                                try clear hx18
                                try clear hf18
                                try clear c24
                                try clear c24b0
                                try clear c25
                                try clear c25b0
                                try clear c26
                                try clear c26b0
                                try clear q27
                                try clear c28
                                try clear c31
                                try clear c31b0
                                try clear c32
                                try clear c32b0
                                try clear c37
                                try clear c37b0
                                try clear c37b1
                                try clear c37b2
                                try clear c38
                                try clear c39
                                try clear c39b0
                                try clear c39b1
                                try clear c40
                                try clear c40b0
                                try clear c41
                                try clear c41b0
                                try clear c42
                                try clear c42b0
                                try clear c42b1
                                try clear c46
                                try clear c48
                                try clear c49
                                try clear c49b0
                                try clear c50
                                try clear c50b0
                                try clear p51
                                try clear q51
                                try clear hx51
                                try clear hf51
                                try clear hx157_0
                                try clear hx158_0
                                try clear hx163_0
                                try clear hx164_0
                                try clear hx170_0
                                try clear hx170_1
                                try clear hx170_2
                                try clear hx170_3
                                try clear hx170_4
                                try clear hx171_0
                                try clear hx18_0
                                try clear hx51_0
                                try clear p1
                                try clear p15
                                try clear p157
                                try clear p158
                                try clear p16
                                try clear p163
                                try clear p164
                                try clear p17
                                try clear p170
                                try clear p171
                                try clear p18
                                try clear p2
                                try clear p51
                                try clear p6
                                try clear q1
                                try clear q15
                                try clear q157
                                try clear q158
                                try clear q16
                                try clear q163
                                try clear q164
                                try clear q17
                                try clear q170
                                try clear q171
                                try clear q18
                                try clear q2
                                try clear q27
                                try clear q51
                                obtain ⟨kq, x6_46, HA, HJ46, HO_6, HO_10, HB⟩ := hcut
                                cases kq with
                                | zero => exact absurd HA.out (by simp [law22_ConnsPlaces.j4])
                                | succ kj46 =>
                                  have H := HA.out
                                  clear HA
                                  simp only [law22_ConnsPlaces.j4] at H
                                  have H' := Aside0.mk H
                                  clear H
                                  go_wp2
                                  repeat (go_quiet (fail); try go_wp2)
                                  go_loopg [13] kj46 (fun kq v13 w' => ∃ (x13_5 : Int), v13 = .int .i64 x13_5 ∧ Aside0 (law22_ConnsPlaces.l2 kq l0 a1 t165 x6_46 x7_1 x13_5 = some r) ∧ Aside0 (kq ≤ kj46) ∧ Aside0 (Kd.V k34 34 w' w.heap.size (fun k_ => some k_ ≠ (v153 : Value).ownBlock) v166 t165) ∧ Aside0 (Kd.R Kd.bool 26 w' w.heap.size (fun _ => True) v153 x6_46) ∧ Aside0 (Below w.heap.size w w'))
                                  case atStart => exact ⟨(0), (by first | rfl | (simp; done) | (simp [*]; done) | (simp [bne_nil_]; done)), H', ⟨Nat.le_refl _⟩, ⟨by (with_reducible repeat (first | apply Kd.V_alloc | apply Kd.V_drewN | apply Kd.V_drew)); exact HO_10.out⟩, ⟨by (with_reducible repeat (first | apply Kd.R_alloc | apply Kd.R_drewN | apply Kd.R_drew)); exact HO_6.out⟩, ⟨by repeat (first | (with_reducible first | exact HB.out | apply below_alloc | apply pw_below_drewN | apply below_drew1) | exact HB.out)⟩⟩
                                  case round =>
                                    clear H'
                                    try clear c1
                                    try clear p1
                                    try clear q1
                                    try clear hx1
                                    try clear c2
                                    try clear p2
                                    try clear q2
                                    try clear c3
                                    try clear c3b0
                                    try clear c3b1
                                    try clear c4
                                    try clear c5
                                    try clear p5
                                    try clear q5
                                    try clear hx5
                                    try clear hf5
                                    try clear p6
                                    try clear c7
                                    try clear c7b0
                                    try clear c7b1
                                    try clear c11
                                    try clear c11b0
                                    try clear c12
                                    try clear c12b0
                                    try clear c13
                                    try clear c13b0
                                    try clear p15
                                    try clear q15
                                    try clear hx15
                                    try clear c16
                                    try clear c16b0
                                    try clear p16
                                    try clear q16
                                    try clear hx16
                                    try clear c17
                                    try clear c17b0
                                    try clear p17
                                    try clear q17
                                    try clear hx17
                                    try clear p18
                                    try clear q18
                                    try clear hx18
                                    try clear hf18
                                    try clear c24
                                    try clear c24b0
                                    try clear c25
                                    try clear c25b0
                                    try clear c26
                                    try clear c26b0
                                    try clear q27
                                    try clear c28
                                    try clear c31
                                    try clear c31b0
                                    try clear c32
                                    try clear c32b0
                                    try clear c37
                                    try clear c37b0
                                    try clear c37b1
                                    try clear c37b2
                                    try clear c38
                                    try clear c39
                                    try clear c39b0
                                    try clear c39b1
                                    try clear c40
                                    try clear c40b0
                                    try clear c41
                                    try clear c41b0
                                    try clear c42
                                    try clear c42b0
                                    try clear c42b1
                                    try clear c46
                                    try clear c48
                                    try clear c49
                                    try clear c49b0
                                    try clear c50
                                    try clear c50b0
                                    try clear p51
                                    try clear q51
                                    try clear hx51
                                    try clear hf51
                                    try clear hx157_0
                                    try clear hx158_0
                                    try clear hx163_0
                                    try clear hx164_0
                                    try clear hx170_0
                                    try clear hx170_1
                                    try clear hx170_2
                                    try clear hx170_3
                                    try clear hx170_4
                                    try clear hx171_0
                                    try clear hx18_0
                                    try clear hx51_0
                                    try clear p1
                                    try clear p15
                                    try clear p157
                                    try clear p158
                                    try clear p16
                                    try clear p163
                                    try clear p164
                                    try clear p17
                                    try clear p170
                                    try clear p171
                                    try clear p18
                                    try clear p2
                                    try clear p5
                                    try clear p51
                                    try clear p6
                                    try clear q1
                                    try clear q15
                                    try clear q157
                                    try clear q158
                                    try clear q16
                                    try clear q163
                                    try clear q164
                                    try clear q17
                                    try clear q170
                                    try clear q171
                                    try clear q18
                                    try clear q2
                                    try clear q27
                                    try clear q5
                                    try clear q51
                                    obtain ⟨x13_5, rfl, HA, HK5, HO_5, HO_6, HB⟩ := hrel
                                    cases gk with
                                    | zero => exact absurd HA.out (by simp [law22_ConnsPlaces.l2])
                                    | succ k5 =>
                                      have H := HA.out
                                      clear HA
                                      simp only [law22_ConnsPlaces.l2] at H
                                      by_cases c54 : x13_5 < 6
                                      · rw [if_pos c54] at H
                                        have c54b0 : decide (x13_5 < 6) = true := decide_eq_true c54
                                        clear c54
                                        replace H := Option.bind_eq_some_iff.mp H
                                        obtain ⟨t173, A550, H⟩ := H
                                        replace H : (if 0 ≤ x13_5 then (if x13_5 < (x6_46.length : Int) then (if (t173 != (rdOf false x6_46 x13_5)) = true then (none) else (law22_ConnsPlaces.l2 k5 l0 a1 t165 x6_46 x7_1 (wrap64 (x13_5 + 1)))) else (none)) else (none)) = some r := H
                                        have A55 := Aside0.mk A550
                                        clear A550
                                        by_cases c56 : 0 ≤ x13_5
                                        · rw [if_pos c56] at H
                                          have c56b0 : decide (0 ≤ x13_5) = true := decide_eq_true c56
                                          clear c56
                                          by_cases c57 : x13_5 < (x6_46.length : Int)
                                          · rw [if_pos c57] at H
                                            have c57b0 : decide (x13_5 < (x6_46.length : Int)) = true := decide_eq_true c57
                                            clear c57
                                            by_cases c58 : (t173 != (rdOf false x6_46 x13_5)) = true
                                            · rw [if_pos c58] at H
                                              exact absurd H (by simp)
                                            · rw [if_neg c58] at H
                                              have c58b0 : (t173 != (rdOf false x6_46 x13_5)) = false := by simpa using c58
                                              (try (have c58b1 : decide (t173 = (rdOf false x6_46 x13_5)) = true := by simpa using c58))
                                              (try (have c58b2 : (t173 == (rdOf false x6_46 x13_5)) = true := by simpa using c58))
                                              clear c58
                                              have H' := Aside0.mk H
                                              clear H
                                              obtain ⟨Ao59, co59, eo59⟩ := Kd.V_slice HO_5.out
                                              subst eo59
                                              go_wp2_with (first | (go_at_call 9; (with_reducible refine (conns_Open.calls _ _ t165 x13_5 t173 _ ?side1 ?side2 A55.out).mono ?_); (case side1 => repeat (first | exact (Kd.V_reads' HO_5.out).2.2 | (with_reducible refine Kd.C_alloc ?_ _) | (with_reducible refine Kd.C_drewN ?_ _) | (with_reducible refine Kd.C_drew ?_))); (case side2 => exact (Kd.V_reads' HO_5.out).2.1); rintro e w' ⟨rfl, ⟨nd, rfl⟩⟩; (try first | exact ⟨rfl, _, World.drewN_drewN _ _ _⟩ | exact ⟨rfl, _, Eq.trans (World.drewN_drewN _ _ _) (congrArg (World.drewN _) (Nat.add_assoc _ _ _))⟩); obtain ⟨Ao60, co60, eo60⟩ := Kd.R_slice HO_6.out; subst eo60; obtain ⟨ea60_, el60_, ec60_⟩ := Kd.slice_inj HV153.out; subst ea60_; have el60I_ : ((List.length _ : Nat) : Int) = 6 := congrArg Nat.cast el60_; have p174 : 0 ≤ (x13_5 : Int) := of_decide_eq_true (by first | (with_reducible assumption) | assumption); have q174 : x13_5 < (x6_46.length : Int) := of_decide_eq_true (by first | (with_reducible assumption) | assumption); obtain ⟨ad174, e174, hx174_0⟩ := Kd.at_bool (Kd.R_reads' HO_6.out).2.2 x13_5 p174 q174; cases e174; (try rw [add_plain] at hx174_0); replace p174 := eq_true p174; replace q174 := eq_true q174; have r174_ : _ < (6 : Int) := Kd.lt_eq (of_eq_true q174) el60I_; have r174T_ := eq_true r174_; have r174F_ := eq_false (Int.not_le.2 r174_)))
                                              repeat (go_quiet (first | (go_at_call 9; (with_reducible refine (conns_Open.calls _ _ t165 x13_5 t173 _ ?side1 ?side2 A55.out).mono ?_); (case side1 => repeat (first | exact (Kd.V_reads' HO_5.out).2.2 | (with_reducible refine Kd.C_alloc ?_ _) | (with_reducible refine Kd.C_drewN ?_ _) | (with_reducible refine Kd.C_drew ?_))); (case side2 => exact (Kd.V_reads' HO_5.out).2.1); rintro e w' ⟨rfl, ⟨nd, rfl⟩⟩; (try first | exact ⟨rfl, _, World.drewN_drewN _ _ _⟩ | exact ⟨rfl, _, Eq.trans (World.drewN_drewN _ _ _) (congrArg (World.drewN _) (Nat.add_assoc _ _ _))⟩); obtain ⟨Ao60, co60, eo60⟩ := Kd.R_slice HO_6.out; subst eo60; obtain ⟨ea60_, el60_, ec60_⟩ := Kd.slice_inj HV153.out; subst ea60_; have el60I_ : ((List.length _ : Nat) : Int) = 6 := congrArg Nat.cast el60_; have p174 : 0 ≤ (x13_5 : Int) := of_decide_eq_true (by first | (with_reducible assumption) | assumption); have q174 : x13_5 < (x6_46.length : Int) := of_decide_eq_true (by first | (with_reducible assumption) | assumption); obtain ⟨ad174, e174, hx174_0⟩ := Kd.at_bool (Kd.R_reads' HO_6.out).2.2 x13_5 p174 q174; cases e174; (try rw [add_plain] at hx174_0); replace p174 := eq_true p174; replace q174 := eq_true q174; have r174_ : _ < (6 : Int) := Kd.lt_eq (of_eq_true q174) el60I_; have r174T_ := eq_true r174_; have r174F_ := eq_false (Int.not_le.2 r174_))); try go_wp2_with (first | (go_at_call 9; (with_reducible refine (conns_Open.calls _ _ t165 x13_5 t173 _ ?side1 ?side2 A55.out).mono ?_); (case side1 => repeat (first | exact (Kd.V_reads' HO_5.out).2.2 | (with_reducible refine Kd.C_alloc ?_ _) | (with_reducible refine Kd.C_drewN ?_ _) | (with_reducible refine Kd.C_drew ?_))); (case side2 => exact (Kd.V_reads' HO_5.out).2.1); rintro e w' ⟨rfl, ⟨nd, rfl⟩⟩; (try first | exact ⟨rfl, _, World.drewN_drewN _ _ _⟩ | exact ⟨rfl, _, Eq.trans (World.drewN_drewN _ _ _) (congrArg (World.drewN _) (Nat.add_assoc _ _ _))⟩); obtain ⟨Ao60, co60, eo60⟩ := Kd.R_slice HO_6.out; subst eo60; obtain ⟨ea60_, el60_, ec60_⟩ := Kd.slice_inj HV153.out; subst ea60_; have el60I_ : ((List.length _ : Nat) : Int) = 6 := congrArg Nat.cast el60_; have p174 : 0 ≤ (x13_5 : Int) := of_decide_eq_true (by first | (with_reducible assumption) | assumption); have q174 : x13_5 < (x6_46.length : Int) := of_decide_eq_true (by first | (with_reducible assumption) | assumption); obtain ⟨ad174, e174, hx174_0⟩ := Kd.at_bool (Kd.R_reads' HO_6.out).2.2 x13_5 p174 q174; cases e174; (try rw [add_plain] at hx174_0); replace p174 := eq_true p174; replace q174 := eq_true q174; have r174_ : _ < (6 : Int) := Kd.lt_eq (of_eq_true q174) el60I_; have r174T_ := eq_true r174_; have r174F_ := eq_false (Int.not_le.2 r174_))))
                                              go_roundg k5
                                              case measure => have := HK1.out; have := HJ22.out; have := HJ33.out; have := HJ46.out; have := HK5.out; omega
                                              case rel => exact ⟨(wrap64 (x13_5 + 1)), (by first | rfl | (simp; done) | (simp [*]; done) | (simp [bne_nil_]; done)), H', ⟨by have := HK1.out; have := HJ22.out; have := HJ33.out; have := HJ46.out; have := HK5.out; omega⟩, ⟨by (with_reducible repeat (first | apply Kd.V_alloc | apply Kd.V_drewN | apply Kd.V_drew)); exact HO_5.out⟩, ⟨by (with_reducible repeat (first | apply Kd.R_alloc | apply Kd.R_drewN | apply Kd.R_drew)); exact HO_6.out⟩, ⟨by repeat (first | (with_reducible first | exact HB.out | apply below_alloc | apply pw_below_drewN | apply below_drew1) | exact HB.out)⟩⟩
                                          · rw [if_neg c57] at H
                                            exact absurd H (by simp)
                                        · rw [if_neg c56] at H
                                          exact absurd H (by simp)
                                      · rw [if_neg c54] at H
                                        have c54b0 : decide (x13_5 < 6) = false := decide_eq_false c54
                                        clear c54
                                        have H' := Aside0.mk H
                                        clear H
                                        go_wp2
                                        repeat (go_quiet (fail); try go_wp2)
                                        go_roundg k5
                                        case measure => have := HK1.out; have := HJ22.out; have := HJ33.out; have := HJ46.out; have := HK5.out; omega
                                        case rel => exact ⟨(t165), (x6_46), (wrap64 (x7_1 + 1)), (by first | rfl | (simp; done) | (simp [*]; done) | (simp [bne_nil_]; done)), H', ⟨by have := HK1.out; have := HJ22.out; have := HJ33.out; have := HJ46.out; have := HK5.out; omega⟩, ⟨by (with_reducible repeat (first | apply Kd.V_alloc | apply Kd.V_drewN | apply Kd.V_drew)); exact HO_5.out⟩, ⟨by (with_reducible repeat (first | apply Kd.R_alloc | apply Kd.R_drewN | apply Kd.R_drew)); exact HO_6.out⟩, ⟨by repeat (first | (with_reducible first | exact HB.out | apply below_alloc | apply pw_below_drewN | apply below_drew1) | exact HB.out)⟩⟩
                      · rw [if_neg c32] at H
                        exact absurd H (by simp)
                    · rw [if_neg c31] at H
                      exact absurd H (by simp)
            · rw [if_neg c12] at H
              exact absurd H (by simp)
          · rw [if_neg c11] at H
            have c11b0 : decide (x7_1 < (l0.length : Int)) = false := decide_eq_false c11
            clear c11
            replace H := Option.bind_eq_some_iff.mp H
            obtain ⟨t155, A610, H⟩ := H
            replace H : (if t155 = true then ((conns_Right.f k1 x5_1).bind fun t156 => (some t156)) else (none)) = some r := H
            have A61 := Aside0.mk A610
            clear A610
            by_cases c62 : t155 = true
            · subst c62
              have H1 : ((conns_Right.f k1 x5_1).bind fun t156 => (some t156)) = some r := by rw [if_pos rfl] at H; exact H
              clear H
              have H := H1
              clear H1
              replace H := Option.bind_eq_some_iff.mp H
              obtain ⟨t156, A630, H⟩ := H
              replace H : (some t156) = some r := H
              have A63 := Aside0.mk A630
              clear A630
              obtain rfl := Option.some.inj H
              go_wp2_with (first | (go_at_call 5; (with_reducible refine (law22_awake.calls k1  true _ A61.out).mono ?_); rintro e w64 ⟨rfl, hb⟩; have n0_ := Aside0.mk (Kd.V_below (by (with_reducible repeat (first | apply Kd.V_alloc | apply Kd.V_drewN | apply Kd.V_drew)); exact HO_5.out) hb); have n1_ := Aside0.mk (Kd.R_below (by (with_reducible repeat (first | apply Kd.R_alloc | apply Kd.R_drewN | apply Kd.R_drew)); exact HO_6.out) hb); have n2_ := Aside0.mk (below_step (by repeat (first | (with_reducible first | exact HB.out | apply below_alloc | apply pw_below_drewN | apply below_drew1) | exact HB.out)) hb); clear HO_5; clear HO_6; clear HB; have HO_5 := n0_; have HO_6 := n1_; have HB := n2_; clear n0_ n1_ n2_; (try clear hb); (try clear hb2); (try clear hk); (try clear hi); obtain ⟨Ao65, co65, eo65⟩ := Kd.V_slice HO_5.out; subst eo65) | (go_at_call 10; (with_reducible refine (conns_Right.calls k1 _ _ x5_1 t156 _ ?side1 ?side2 A63.out).mono ?_); (case side1 => repeat (first | exact (Kd.V_reads' HO_5.out).2.2 | (with_reducible refine Kd.C_alloc ?_ _) | (with_reducible refine Kd.C_drewN ?_ _) | (with_reducible refine Kd.C_drew ?_))); (case side2 => exact (Kd.V_reads' HO_5.out).2.1); rintro e w66 ⟨rfl, hb⟩; have n0_ := Aside0.mk (Kd.V_below (by (with_reducible repeat (first | apply Kd.V_alloc | apply Kd.V_drewN | apply Kd.V_drew)); exact HO_5.out) hb); have n1_ := Aside0.mk (Kd.R_below (by (with_reducible repeat (first | apply Kd.R_alloc | apply Kd.R_drewN | apply Kd.R_drew)); exact HO_6.out) hb); have n2_ := Aside0.mk (below_step (by repeat (first | (with_reducible first | exact HB.out | apply below_alloc | apply pw_below_drewN | apply below_drew1) | exact HB.out)) hb); clear HO_5; clear HO_6; clear HB; have HO_5 := n0_; have HO_6 := n1_; have HB := n2_; clear n0_ n1_ n2_; (try clear hb); (try clear hb2); (try clear hk); (try clear hi)))
              repeat (go_quiet (first | (go_at_call 5; (with_reducible refine (law22_awake.calls k1  true _ A61.out).mono ?_); rintro e w64 ⟨rfl, hb⟩; have n0_ := Aside0.mk (Kd.V_below (by (with_reducible repeat (first | apply Kd.V_alloc | apply Kd.V_drewN | apply Kd.V_drew)); exact HO_5.out) hb); have n1_ := Aside0.mk (Kd.R_below (by (with_reducible repeat (first | apply Kd.R_alloc | apply Kd.R_drewN | apply Kd.R_drew)); exact HO_6.out) hb); have n2_ := Aside0.mk (below_step (by repeat (first | (with_reducible first | exact HB.out | apply below_alloc | apply pw_below_drewN | apply below_drew1) | exact HB.out)) hb); clear HO_5; clear HO_6; clear HB; have HO_5 := n0_; have HO_6 := n1_; have HB := n2_; clear n0_ n1_ n2_; (try clear hb); (try clear hb2); (try clear hk); (try clear hi); obtain ⟨Ao65, co65, eo65⟩ := Kd.V_slice HO_5.out; subst eo65) | (go_at_call 10; (with_reducible refine (conns_Right.calls k1 _ _ x5_1 t156 _ ?side1 ?side2 A63.out).mono ?_); (case side1 => repeat (first | exact (Kd.V_reads' HO_5.out).2.2 | (with_reducible refine Kd.C_alloc ?_ _) | (with_reducible refine Kd.C_drewN ?_ _) | (with_reducible refine Kd.C_drew ?_))); (case side2 => exact (Kd.V_reads' HO_5.out).2.1); rintro e w66 ⟨rfl, hb⟩; have n0_ := Aside0.mk (Kd.V_below (by (with_reducible repeat (first | apply Kd.V_alloc | apply Kd.V_drewN | apply Kd.V_drew)); exact HO_5.out) hb); have n1_ := Aside0.mk (Kd.R_below (by (with_reducible repeat (first | apply Kd.R_alloc | apply Kd.R_drewN | apply Kd.R_drew)); exact HO_6.out) hb); have n2_ := Aside0.mk (below_step (by repeat (first | (with_reducible first | exact HB.out | apply below_alloc | apply pw_below_drewN | apply below_drew1) | exact HB.out)) hb); clear HO_5; clear HO_6; clear HB; have HO_5 := n0_; have HO_6 := n1_; have HB := n2_; clear n0_ n1_ n2_; (try clear hb); (try clear hb2); (try clear hk); (try clear hi))); try go_wp2_with (first | (go_at_call 5; (with_reducible refine (law22_awake.calls k1  true _ A61.out).mono ?_); rintro e w64 ⟨rfl, hb⟩; have n0_ := Aside0.mk (Kd.V_below (by (with_reducible repeat (first | apply Kd.V_alloc | apply Kd.V_drewN | apply Kd.V_drew)); exact HO_5.out) hb); have n1_ := Aside0.mk (Kd.R_below (by (with_reducible repeat (first | apply Kd.R_alloc | apply Kd.R_drewN | apply Kd.R_drew)); exact HO_6.out) hb); have n2_ := Aside0.mk (below_step (by repeat (first | (with_reducible first | exact HB.out | apply below_alloc | apply pw_below_drewN | apply below_drew1) | exact HB.out)) hb); clear HO_5; clear HO_6; clear HB; have HO_5 := n0_; have HO_6 := n1_; have HB := n2_; clear n0_ n1_ n2_; (try clear hb); (try clear hb2); (try clear hk); (try clear hi); obtain ⟨Ao65, co65, eo65⟩ := Kd.V_slice HO_5.out; subst eo65) | (go_at_call 10; (with_reducible refine (conns_Right.calls k1 _ _ x5_1 t156 _ ?side1 ?side2 A63.out).mono ?_); (case side1 => repeat (first | exact (Kd.V_reads' HO_5.out).2.2 | (with_reducible refine Kd.C_alloc ?_ _) | (with_reducible refine Kd.C_drewN ?_ _) | (with_reducible refine Kd.C_drew ?_))); (case side2 => exact (Kd.V_reads' HO_5.out).2.1); rintro e w66 ⟨rfl, hb⟩; have n0_ := Aside0.mk (Kd.V_below (by (with_reducible repeat (first | apply Kd.V_alloc | apply Kd.V_drewN | apply Kd.V_drew)); exact HO_5.out) hb); have n1_ := Aside0.mk (Kd.R_below (by (with_reducible repeat (first | apply Kd.R_alloc | apply Kd.R_drewN | apply Kd.R_drew)); exact HO_6.out) hb); have n2_ := Aside0.mk (below_step (by repeat (first | (with_reducible first | exact HB.out | apply below_alloc | apply pw_below_drewN | apply below_drew1) | exact HB.out)) hb); clear HO_5; clear HO_6; clear HB; have HO_5 := n0_; have HO_6 := n1_; have HB := n2_; clear n0_ n1_ n2_; (try clear hb); (try clear hb2); (try clear hk); (try clear hi))))
              go_ret
              exact ⟨by first | rfl | (simp [errW_none, errW_some] <;> rfl) | (simp [*, errW_none, errW_some] <;> rfl), by repeat (first | (with_reducible first | exact HB.out | apply below_alloc | apply pw_below_drewN | apply below_drew1) | exact HB.out)⟩
            · replace c62 := Bool.eq_false_iff.mpr c62
              subst c62
              have H1 : (none) = some r := by rw [if_neg (show ¬ (false = true) by decide)] at H; exact H
              clear H
              have H := H1
              clear H1
              exact absurd H (by simp)
    · rw [if_neg c7] at H
      exact absurd H (by simp)

end Go.Proofs.Ytgffhdgfloimaaa.P

-- Written by a program of this session (wip/mkprint.py). Not trusted: Lean checks it.
import Derived.Test.YtnmloapejbnejaaP0
import Derived.Test.YtnmloapejbnejaaP1
import Derived.Test.YtnmloapejbnejaaP2
namespace Go.Proofs.Ytnmloapejbnejaa.P
open Go.RowKit Go.Proofs.YtnmloapejbnejaaW.PrintWords Go.Proofs.YtnmloapejbnejaaW.PrintLast Go.Proofs.YtnmloapejbnejaaW.PrintMore
attribute [local go_sem] max2_int min2_int max_two min_two max_three min_three max_four min_four   -- for this text's walks alone
set_option linter.unusedVariables false
set_option linter.unusedSimpArgs false

/-! ### law20_PendParts: function 3 -/
mutual
def law20_PendParts.j0 : Nat → List (S32) → Int → Int → Bool → Option (Bool)
 | 0, _, _, _, _ => none
 | k + 1, x0, x1, x2, x19 => if x19 = true then ((law20_awake.f k).bind fun t178 => (some t178)) else ((pend_Due.f k x0 x1).bind fun bt179 => ((pend_Leave.f k x0 x2).bind fun t185 => (law20_PendParts.l0 k x0 x1 x2 bt179.1 bt179.2 t185 0 0)))
def law20_PendParts.l0 : Nat → List (S32) → Int → Int → List (S32) → List (S32) → List (S32) → Int → Int → Option (Bool)
 | 0, _, _, _, _, _, _, _, _ => none
 | k + 1, x0, x1, x2, x7, x8, x9, x10, x11 => if x11 < (x0.length : Int) then (if 0 ≤ x11 then (if ((rd_T32 x0 x11).f1) = x2 then (law20_PendParts.j2 k x0 x1 x2 x7 x8 x9 (wrap64 (x10 + 1)) x11) else (law20_PendParts.j2 k x0 x1 x2 x7 x8 x9 x10 x11)) else (none)) else ((law20_awake.f k).bind fun t188 => (if t188 = true then (if (wrap64 ((x7.length : Int) + (x8.length : Int))) = (x0.length : Int) then (if (wrap64 ((x9.length : Int) + x10)) = (x0.length : Int) then ((pend_Outers.f k x0).bind fun t189 => (some ((t189.length : Int) == (x0.length : Int)))) else (none)) else (none)) else (none)))
def law20_PendParts.j2 : Nat → List (S32) → Int → Int → List (S32) → List (S32) → List (S32) → Int → Int → Option (Bool)
 | 0, _, _, _, _, _, _, _, _ => none
 | k + 1, x0, x1, x2, x7, x8, x9, x10, x11 => if 0 ≤ x11 then (if x11 < (x0.length : Int) then ((pend_Find.f k x7 ((rd_T32 x0 x11).f0)).bind fun t194 => (if ((decide (t194 ≥ 0)) != (decide (((rd_T32 x0 x11).f6) ≤ x1))) = true then (none) else ((pend_Find.f k x8 ((rd_T32 x0 x11).f0)).bind fun t197 => (if ((decide (t197 ≥ 0)) != (decide (((rd_T32 x0 x11).f6) > x1))) = true then (none) else ((pend_Find.f k x9 ((rd_T32 x0 x11).f0)).bind fun t200 => (if ((decide (t200 ≥ 0)) != (((rd_T32 x0 x11).f1) != x2)) = true then (none) else (law20_PendParts.l0 k x0 x1 x2 x7 x8 x9 x10 (wrap64 (x11 + 1))))))))) else (none)) else (none)
end
def law20_PendParts.f (k : Nat) (l0 : List (S32)) (a1 : Int) (a2 : Int) : Option (Bool) := if (l0.length : Int) > 80 then (law20_PendParts.j0 k l0 a1 a2 true) else ((ref20_Right.f k l0).bind fun t177 => (law20_PendParts.j0 k l0 a1 a2 (!t177)))
theorem law20_PendParts.mono_l : ∀ k, (∀ y0 y1 y2 y3, LeO (law20_PendParts.j0 k y0 y1 y2 y3) (law20_PendParts.j0 (k + 1) y0 y1 y2 y3)) ∧ (∀ y0 y1 y2 y3 y4 y5 y6 y7, LeO (law20_PendParts.l0 k y0 y1 y2 y3 y4 y5 y6 y7) (law20_PendParts.l0 (k + 1) y0 y1 y2 y3 y4 y5 y6 y7)) ∧ (∀ y0 y1 y2 y3 y4 y5 y6 y7, LeO (law20_PendParts.j2 k y0 y1 y2 y3 y4 y5 y6 y7) (law20_PendParts.j2 (k + 1) y0 y1 y2 y3 y4 y5 y6 y7))
 | 0 => ⟨fun _ _ _ _ r h => by simp [law20_PendParts.j0] at h, fun _ _ _ _ _ _ _ _ r h => by simp [law20_PendParts.l0] at h, fun _ _ _ _ _ _ _ _ r h => by simp [law20_PendParts.j2] at h⟩
 | k + 1 => by
  obtain ⟨ih0, ih1, ih2⟩ := law20_PendParts.mono_l k
  refine ⟨?_, ?_, ?_⟩
  ·intro y0 y1 y2 y3
   unfold law20_PendParts.j0
   repeat' first
   | (with_reducible exact ih0 _ _ _ _)
   | (with_reducible exact ih1 _ _ _ _ _ _ _ _)
   | (with_reducible exact ih2 _ _ _ _ _ _ _ _)
   | (with_reducible exact law20_awake.mono _)
   | (with_reducible exact pend_Due.mono _ _ _)
   | (with_reducible exact pend_Find.mono _ _ _)
   | (with_reducible exact pend_Leave.mono _ _ _)
   | (with_reducible exact pend_Outers.mono _ _)
   | (with_reducible exact ref20_Right.mono _ _)
   | (with_reducible exact LeO.refl _)
   | (with_reducible exact LeO.none _)
   | (with_reducible refine LeO.ite ?_ ?_)
   | (with_reducible refine LeO.bind ?_ (fun _ => ?_))
   | exact ih0 _ _ _ _
   | exact ih1 _ _ _ _ _ _ _ _
   | exact ih2 _ _ _ _ _ _ _ _
   | exact law20_awake.mono _
   | exact pend_Due.mono _ _ _
   | exact pend_Find.mono _ _ _
   | exact pend_Leave.mono _ _ _
   | exact pend_Outers.mono _ _
   | exact ref20_Right.mono _ _
   | exact LeO.none _
   | refine LeO.ite ?_ ?_
   | refine LeO.bind ?_ (fun _ => ?_)
  ·intro y0 y1 y2 y3 y4 y5 y6 y7
   unfold law20_PendParts.l0
   repeat' first
   | (with_reducible exact ih0 _ _ _ _)
   | (with_reducible exact ih1 _ _ _ _ _ _ _ _)
   | (with_reducible exact ih2 _ _ _ _ _ _ _ _)
   | (with_reducible exact law20_awake.mono _)
   | (with_reducible exact pend_Due.mono _ _ _)
   | (with_reducible exact pend_Find.mono _ _ _)
   | (with_reducible exact pend_Leave.mono _ _ _)
   | (with_reducible exact pend_Outers.mono _ _)
   | (with_reducible exact ref20_Right.mono _ _)
   | (with_reducible exact LeO.refl _)
   | (with_reducible exact LeO.none _)
   | (with_reducible refine LeO.ite ?_ ?_)
   | (with_reducible refine LeO.bind ?_ (fun _ => ?_))
   | exact ih0 _ _ _ _
   | exact ih1 _ _ _ _ _ _ _ _
   | exact ih2 _ _ _ _ _ _ _ _
   | exact law20_awake.mono _
   | exact pend_Due.mono _ _ _
   | exact pend_Find.mono _ _ _
   | exact pend_Leave.mono _ _ _
   | exact pend_Outers.mono _ _
   | exact ref20_Right.mono _ _
   | exact LeO.none _
   | refine LeO.ite ?_ ?_
   | refine LeO.bind ?_ (fun _ => ?_)
  ·intro y0 y1 y2 y3 y4 y5 y6 y7
   unfold law20_PendParts.j2
   repeat' first
   | (with_reducible exact ih0 _ _ _ _)
   | (with_reducible exact ih1 _ _ _ _ _ _ _ _)
   | (with_reducible exact ih2 _ _ _ _ _ _ _ _)
   | (with_reducible exact law20_awake.mono _)
   | (with_reducible exact pend_Due.mono _ _ _)
   | (with_reducible exact pend_Find.mono _ _ _)
   | (with_reducible exact pend_Leave.mono _ _ _)
   | (with_reducible exact pend_Outers.mono _ _)
   | (with_reducible exact ref20_Right.mono _ _)
   | (with_reducible exact LeO.refl _)
   | (with_reducible exact LeO.none _)
   | (with_reducible refine LeO.ite ?_ ?_)
   | (with_reducible refine LeO.bind ?_ (fun _ => ?_))
   | exact ih0 _ _ _ _
   | exact ih1 _ _ _ _ _ _ _ _
   | exact ih2 _ _ _ _ _ _ _ _
   | exact law20_awake.mono _
   | exact pend_Due.mono _ _ _
   | exact pend_Find.mono _ _ _
   | exact pend_Leave.mono _ _ _
   | exact pend_Outers.mono _ _
   | exact ref20_Right.mono _ _
   | exact LeO.none _
   | refine LeO.ite ?_ ?_
   | refine LeO.bind ?_ (fun _ => ?_)
theorem law20_PendParts.mono : ∀ a0 a1 a2 k, LeO (law20_PendParts.f k a0 a1 a2) (law20_PendParts.f (k + 1) a0 a1 a2) := by
 intro a0 a1 a2 k
 obtain ⟨ih0, ih1, ih2⟩ := law20_PendParts.mono_l k
 unfold law20_PendParts.f
 repeat' first
  | (with_reducible exact ih0 _ _ _ _)
  | (with_reducible exact ih1 _ _ _ _ _ _ _ _)
  | (with_reducible exact ih2 _ _ _ _ _ _ _ _)
  | (with_reducible exact law20_awake.mono _)
  | (with_reducible exact pend_Due.mono _ _ _)
  | (with_reducible exact pend_Find.mono _ _ _)
  | (with_reducible exact pend_Leave.mono _ _ _)
  | (with_reducible exact pend_Outers.mono _ _)
  | (with_reducible exact ref20_Right.mono _ _)
  | (with_reducible exact LeO.refl _)
  | (with_reducible exact LeO.none _)
  | (with_reducible refine LeO.ite ?_ ?_)
  | (with_reducible refine LeO.bind ?_ (fun _ => ?_))
  | exact ih0 _ _ _ _
  | exact ih1 _ _ _ _ _ _ _ _
  | exact ih2 _ _ _ _ _ _ _ _
  | exact law20_awake.mono _
  | exact pend_Due.mono _ _ _
  | exact pend_Find.mono _ _ _
  | exact pend_Leave.mono _ _ _
  | exact pend_Outers.mono _ _
  | exact ref20_Right.mono _ _
  | exact LeO.none _
  | refine LeO.ite ?_ ?_
  | refine LeO.bind ?_ (fun _ => ?_)
def law20_PendParts.T11 : Bool × List (List Nat × List Nat) := (true, [([], []), ([], []), ([], []), ([1, 2], [1, 2]), ([3], [3]), ([4], [4]), ([0, 5], [0, 5]), ([6], [6]), ([], []), ([], []), ([8, 9], [8, 9]), ([10], [10]), ([11], [11]), ([], []), ([12, 13], [12, 13]), ([7, 14], [7, 14]), ([15, 6], [15]), ([16], [16]), ([16], [16]), ([16], [16]), ([18, 19, 16], [16, 18, 19]), ([20, 16], [16, 20]), ([21, 16], [16, 21]), ([17, 22, 16, 16], [16, 17, 22]), ([23, 16], [16, 23]), ([16], [16]), ([16], [16]), ([25, 26, 16], [16, 25, 26]), ([27, 16], [16, 27]), ([28, 16], [16, 28]), ([16], [16]), ([29, 30, 16], [16, 29, 30]), ([24, 31, 16], [16, 24, 31]), ([16, 32], [16, 32]), ([33, 23], [33]), ([34], [34]), ([34], [34]), ([34], [34]), ([36, 37, 34], [34, 36, 37]), ([38, 34], [34, 38]), ([39, 34], [34, 39]), ([35, 40, 34, 34], [34, 35, 40]), ([41, 34], [34, 41]), ([34], [34]), ([34], [34]), ([43, 44, 34], [34, 43, 44]), ([45, 34], [34, 45]), ([46, 34], [34, 46]), ([34], [34]), ([47, 48, 34], [34, 47, 48]), ([42, 49, 34], [34, 42, 49]), ([34, 50], [34, 50])])
def law20_PendParts.B11 : List Nat := [0, 0, 0, 6, 14, 30, 63, 127, 0, 0, 768, 1792, 3840, 0, 16128, 32767, 65535, 131071, 131071, 131071, 917503, 1966079, 4063231, 8388607, 16777215, 131071, 131071, 100794367, 235012095, 503447551, 131071, 2114060287, 4294967295, 8589934591, 17179869183, 34359738367, 34359738367, 34359738367, 240518168575, 515396075519, 1065151889407, 2199023255551, 4398046511103, 34359738367, 34359738367, 26422638804991, 61607010893823, 131975755071487, 34359738367, 554188220137471, 1125899906842623, 2251799813685247]
theorem law20_PendParts.tab11 : rtab .any (opsOf Try.f3 11) = law20_PendParts.T11 := by kernel_rfl
theorem law20_PendParts.bits11 : waitsOk law20_PendParts.T11.2 law20_PendParts.B11 = true := by kernel_rfl
set_option maxHeartbeats 8000000 in
set_option maxRecDepth 100000 in
theorem law20_PendParts.calls (k : Nat) (A0 : Option Addr) (c0 : Nat) (l0 : List (S32)) (a1 : Int) (a2 : Int) (r : Bool) (w : World) (hr0 : Kd.C k32 w A0 l0.length l0) (hc0 : l0.length ≤ c0) (h : law20_PendParts.f k l0 a1 a2 = some r) :
 Calls Try.prog 3 #[.slice A0 l0.length c0, .int .i64 a1, .int .i64 a2] w fun e w' => e = .returned (.bool r) ∧ Below w.heap.size w w' := by
 have HR0 := Aside0.mk hr0
 have HC0 := Aside0.mk hc0
 clear hr0 hc0
 have HB := Aside0.mk (Below.refl w.heap.size w)
 have H : (if (l0.length : Int) > 80 then (law20_PendParts.j0 k l0 a1 a2 true) else ((ref20_Right.f k l0).bind fun t177 => (law20_PendParts.j0 k l0 a1 a2 (!t177)))) = some r := h
 clear h
 have HC4 := Aside0.mk H
 clear H
 go_enter Try.func3, Try.ntmps3
 go_upto_region 1 with (fail)
 go_cut [19] (fun v19 wc => ∃ (kq : Nat) (x19_3 : Bool), v19 = .bool x19_3 ∧ Aside0 (law20_PendParts.j0 kq l0 a1 a2 x19_3 = some r) ∧ Aside0 (kq ≤ k) ∧ Aside0 (Below w.heap.size w wc))
 case first =>
  have H := HC4.out
  clear HC4
  by_cases c5 : (l0.length : Int) > 80
  ·rw [if_pos c5] at H
   have c5b0 : decide (80 < (l0.length : Int)) = true := decide_eq_true c5
   have c5b1 : decide (80 < l0.length) = true := decide_eq_true (by omega)
   clear c5
   (first | rw [c5b0] | (simp only [i64_w, i32_w]; rw [c5b0]) | skip)
   have H' := Aside0.mk H
   clear H
   go_wp2
   go_meet
   case rel => exact ⟨_, (true), (by first | rfl | (simp; done) | (simp [*]; done) | (simp [bne_nil_]; done)), H', ⟨by first | omega | exact Nat.le_refl _⟩, ⟨by repeat (first | (with_reducible first | exact HB.out | apply below_alloc | apply pw_below_drewN | apply below_drew1) | exact HB.out)⟩⟩
  ·rw [if_neg c5] at H
   have c5b0 : decide (80 < (l0.length : Int)) = false := decide_eq_false c5
   have c5b1 : decide (80 < l0.length) = false := decide_eq_false (by omega)
   clear c5
   (first | rw [c5b0] | (simp only [i64_w, i32_w]; rw [c5b0]) | skip)
   replace H := Option.bind_eq_some_iff.mp H
   obtain ⟨t177, A60, H⟩ := H
   replace H : (law20_PendParts.j0 k l0 a1 a2 (!t177)) = some r := H
   have A6 := Aside0.mk A60
   clear A60
   have H' := Aside0.mk H
   clear H
   go_wp2_with (first | (go_at_call 6; (with_reducible refine (ref20_Right.calls k _ _ l0 t177 _ ?side1 ?side2 A6.out).mono ?_); (case side1 => repeat (first | exact (Kd.C_below HR0.out HB.out) | (with_reducible refine Kd.C_alloc ?_ _) | (with_reducible refine Kd.C_drewN ?_ _) | (with_reducible refine Kd.C_drew ?_))); (case side2 => exact HC0.out); rintro e w' ⟨rfl, ⟨nd, rfl⟩⟩))
   go_meet
   case rel => exact ⟨_, (!t177), (by first | rfl | (simp; done) | (simp [*]; done) | (simp [bne_nil_]; done)), H', ⟨by first | omega | exact Nat.le_refl _⟩, ⟨by repeat (first | (with_reducible first | exact HB.out | apply below_alloc | apply pw_below_drewN | apply below_drew1) | exact HB.out)⟩⟩
 case rest =>
  clear HC4
  try clear p2
  try clear c3
  try clear c5
  try clear c5b0
  try clear c5b1
  obtain ⟨kq, x19_3, rfl, HA, HJ3, HB⟩ := hcut
  cases kq with
  | zero => exact absurd HA.out (by simp [law20_PendParts.j0])
  | succ kj3 =>
   have H := HA.out
   clear HA
   simp only [law20_PendParts.j0] at H
   by_cases c7 : x19_3 = true
   ·subst c7
    have H1 : ((law20_awake.f kj3).bind fun t178 => (some t178)) = some r := by rw [if_pos rfl] at H; exact H
    clear H
    have H := H1
    clear H1
    replace H := Option.bind_eq_some_iff.mp H
    obtain ⟨t178, A80, H⟩ := H
    replace H : (some t178) = some r := H
    have A8 := Aside0.mk A80
    clear A80
    obtain rfl := Option.some.inj H
    go_wp2_with (first | ((with_reducible refine gate_callee (f := 7) rfl ?_); refine goesL_ (some 20) rfl rfl Try.func7 (by kernel_rfl) rfl #[] rfl (by (try simp only [List.map_toArray, List.map_cons, List.map_nil]); first | done | rfl | (simp only [List.length_drop, List.length_take]; rfl)) ?_; (with_reducible refine (law20_awake.calls kj3  t178 _ A8.out).mono ?_); rintro e w9 ⟨rfl, hb⟩; refine ⟨_, rfl, ?_⟩; have n0_ := Aside0.mk (below_step (by repeat (first | (with_reducible first | exact HB.out | apply below_alloc | apply pw_below_drewN | apply below_drew1) | exact HB.out)) hb); clear HB; have HB := n0_; clear n0_; (try clear hb); (try clear hb2); (try clear hk); (try clear hi)))
    go_ret
    exact ⟨by first | rfl | (simp [errW_none, errW_some] <;> rfl) | (simp [*, errW_none, errW_some] <;> rfl), by repeat (first | (with_reducible first | exact HB.out | apply below_alloc | apply pw_below_drewN | apply below_drew1) | exact HB.out)⟩
   ·replace c7 := Bool.eq_false_iff.mpr c7
    subst c7
    have H1 : ((pend_Due.f kj3 l0 a1).bind fun bt179 => ((pend_Leave.f kj3 l0 a2).bind fun t185 => (law20_PendParts.l0 kj3 l0 a1 a2 bt179.1 bt179.2 t185 0 0))) = some r := by rw [if_neg (show ¬ (false = true) by decide)] at H; exact H
    clear H
    have H := H1
    clear H1
    replace H := Option.bind_eq_some_iff.mp H
    obtain ⟨⟨t179, t182⟩, A100, H⟩ := H
    replace H : ((pend_Leave.f kj3 l0 a2).bind fun t185 => (law20_PendParts.l0 kj3 l0 a1 a2 t179 t182 t185 0 0)) = some r := H
    have A10 := Aside0.mk A100
    clear A100
    replace H := Option.bind_eq_some_iff.mp H
    obtain ⟨t185, A110, H⟩ := H
    replace H : (law20_PendParts.l0 kj3 l0 a1 a2 t179 t182 t185 0 0) = some r := H
    have A11 := Aside0.mk A110
    clear A110
    have H' := Aside0.mk H
    clear H
    go_wp2_with (first | ((with_reducible refine gate_callee (f := 8) rfl ?_); refine goesL_ (some 24) rfl rfl Try.func8 (by kernel_rfl) rfl #[.slice A0 l0.length c0, .int .i64 a1] rfl (by (try simp only [List.map_toArray, List.map_cons, List.map_nil]); first | done | rfl | (simp only [List.length_drop, List.length_take]; rfl)) ?_; (with_reducible refine (pend_Due.calls kj3 (fun k_ => k_ < w.heap.size) _ _ l0 a1 t179 t182 _ ?side1 A10.out).mono ?_); (case side1 => exact Kd.V_mk HC0.out (Kd.F_below (Kd.C_F k32_heap HR0.out) (by repeat (first | (with_reducible first | exact HB.out | apply below_alloc | apply pw_below_drewN | apply below_drew1) | exact HB.out)))); rintro e w12 ⟨v180, v183, rfl, ho0, ho1, hb⟩; refine ⟨_, rfl, ?_⟩; have n0_ := Aside0.mk (Kd.N_lower (Kd.N_mono (ok' := fun k_ => some k_ ≠ (v183 : Value).ownBlock) ho0 (fun k_ hk_ => hk_.2)) (below_size (by repeat (first | (with_reducible first | exact HB.out | apply below_alloc | apply pw_below_drewN | apply below_drew1) | exact HB.out)))); have n1_ := Aside0.mk (Kd.N_lower (Kd.N_mono (ok' := fun k_ => some k_ ≠ (v180 : Value).ownBlock) ho1 (fun k_ hk_ => hk_.2)) (below_size (by repeat (first | (with_reducible first | exact HB.out | apply below_alloc | apply pw_below_drewN | apply below_drew1) | exact HB.out)))); have n2_ := Aside0.mk (below_step (by repeat (first | (with_reducible first | exact HB.out | apply below_alloc | apply pw_below_drewN | apply below_drew1) | exact HB.out)) hb); clear HB; have HO181 := n0_; have HO184 := n1_; have HB := n2_; clear n0_ n1_ n2_; (try clear hb); (try clear hb2); (try clear hk); (try clear hi); (try clear ho0); (try clear ho1)) | ((with_reducible refine gate_callee (f := 9) rfl ?_); refine goesL_ (some 29) rfl rfl Try.func9 (by kernel_rfl) rfl #[.slice A0 l0.length c0, .int .i64 a2] rfl (by (try simp only [List.map_toArray, List.map_cons, List.map_nil]); first | done | rfl | (simp only [List.length_drop, List.length_take]; rfl)) ?_; (with_reducible refine (pend_Leave.calls kj3 (fun k_ => k_ < w.heap.size) _ _ l0 a2 t185 _ ?side1 A11.out).mono ?_); (case side1 => exact Kd.V_mk HC0.out (Kd.F_below (Kd.C_F k32_heap HR0.out) (by repeat (first | (with_reducible first | exact HB.out | apply below_alloc | apply pw_below_drewN | apply below_drew1) | exact HB.out)))); rintro e w13 ⟨v186, rfl, ho0, hb⟩; refine ⟨_, rfl, ?_⟩; have n0_ := Aside0.mk (Kd.N_elder' (by (with_reducible repeat (first | apply Kd.N_alloc | apply Kd.N_drewN | apply Kd.N_drew)); exact HO181.out) (Kd.N_base ho0) hb); have n1_ := Aside0.mk (Kd.N_elder' (by (with_reducible repeat (first | apply Kd.N_alloc | apply Kd.N_drewN | apply Kd.N_drew)); exact HO184.out) (Kd.N_base ho0) hb); have n2_ := Aside0.mk (Kd.N_lower (Kd.N_mono (ok' := fun k_ => some k_ ≠ (v180 : Value).ownBlock ∧ some k_ ≠ (v183 : Value).ownBlock) ho0 (fun k_ hk_ => ⟨Or.elim hk_ (fun hs_ => fun e_ => Nat.not_le.2 hs_ (Kd.N_base HO181.out k_ e_.symm)) (fun hn_ => (Kd.fresh' (Kd.N_lt (by (with_reducible repeat (first | apply Kd.N_alloc | apply Kd.N_drewN | apply Kd.N_drew)); exact HO181.out)) k_ hn_)), Or.elim hk_ (fun hs_ => fun e_ => Nat.not_le.2 hs_ (Kd.N_base HO184.out k_ e_.symm)) (fun hn_ => (Kd.fresh' (Kd.N_lt (by (with_reducible repeat (first | apply Kd.N_alloc | apply Kd.N_drewN | apply Kd.N_drew)); exact HO184.out)) k_ hn_))⟩)) (below_size (by repeat (first | (with_reducible first | exact HB.out | apply below_alloc | apply pw_below_drewN | apply below_drew1) | exact HB.out)))); have n3_ := Aside0.mk (below_step (by repeat (first | (with_reducible first | exact HB.out | apply below_alloc | apply pw_below_drewN | apply below_drew1) | exact HB.out)) hb); clear HO181; clear HO184; clear HB; have HO181 := n0_; have HO184 := n1_; have HO187 := n2_; have HB := n3_; clear n0_ n1_ n2_ n3_; (try clear hb); (try clear hb2); (try clear hk); (try clear hi); (try clear ho0)))
    go_loopg [10, 11] kj3 (fun kq v10 v11 w' => ∃ (x10_2 : Int) (x11_2 : Int), v10 = .int .i64 x10_2 ∧ v11 = .int .i64 x11_2 ∧ Aside0 (law20_PendParts.l0 kq l0 a1 a2 t179 t182 t185 x10_2 x11_2 = some r) ∧ Aside0 (kq ≤ kj3) ∧ Aside0 (Kd.N k32 32 w' w.heap.size (fun k_ => some k_ ≠ (v183 : Value).ownBlock ∧ some k_ ≠ (v186 : Value).ownBlock) v180 t179) ∧ Aside0 (Kd.N k32 32 w' w.heap.size (fun k_ => some k_ ≠ (v180 : Value).ownBlock ∧ some k_ ≠ (v186 : Value).ownBlock) v183 t182) ∧ Aside0 (Kd.N k32 32 w' w.heap.size (fun k_ => some k_ ≠ (v180 : Value).ownBlock ∧ some k_ ≠ (v183 : Value).ownBlock) v186 t185) ∧ Aside0 (Below w.heap.size w w'))
    case atStart => exact ⟨(0), (0), (by first | rfl | (simp; done) | (simp [*]; done) | (simp [bne_nil_]; done)), (by first | rfl | (simp; done) | (simp [*]; done) | (simp [bne_nil_]; done)), H', ⟨Nat.le_refl _⟩, ⟨by (with_reducible repeat (first | apply Kd.N_alloc | apply Kd.N_drewN | apply Kd.N_drew)); exact HO181.out⟩, ⟨by (with_reducible repeat (first | apply Kd.N_alloc | apply Kd.N_drewN | apply Kd.N_drew)); exact HO184.out⟩, ⟨by (with_reducible repeat (first | apply Kd.N_alloc | apply Kd.N_drewN | apply Kd.N_drew)); exact HO187.out⟩, ⟨by repeat (first | (with_reducible first | exact HB.out | apply below_alloc | apply pw_below_drewN | apply below_drew1) | exact HB.out)⟩⟩
    case round =>
     clear H'
     try clear p2
     try clear c3
     try clear c5
     try clear c5b0
     try clear c5b1
     try clear c7
     try clear c8
     try clear c9
     try clear p2
     obtain ⟨x10_2, x11_2, rfl, rfl, HA, HK2, HO_7, HO_8, HO_9, HB⟩ := hrel
     cases gk with
     | zero => exact absurd HA.out (by simp [law20_PendParts.l0])
     | succ k2 =>
      have H := HA.out
      clear HA
      simp only [law20_PendParts.l0] at H
      by_cases c14 : x11_2 < (l0.length : Int)
      ·rw [if_pos c14] at H
       have c14b0 : decide (x11_2 < (l0.length : Int)) = true := decide_eq_true c14
       clear c14
       by_cases c15 : 0 ≤ x11_2
       rotate_left
       ·rw [if_neg c15] at H
        exact absurd H (by simp)
       rw [if_pos c15] at H
       have c15b0 : decide (0 ≤ x11_2) = true := decide_eq_true c15
       clear c15
       have HC16 := Aside0.mk H
       clear H
       have p192 : 0 ≤ (x11_2 : Int) := of_decide_eq_true (by first | (with_reducible assumption) | assumption)
       have q192 : x11_2 < (l0.length : Int) := of_decide_eq_true (by first | (with_reducible assumption) | assumption)
       obtain ⟨ad192, A192_10, c192_10, e192, hx192_0, hx192_1, hx192_2, hx192_3, hx192_4, hx192_5, hx192_6, hx192_7, hx192_8, hx192_9, hx192_10, hx192_11, hl192_10, hi192_10⟩ := at_T32 HR0.out x11_2 p192 q192
       cases e192
       replace hx192_0 := (HB.out.cell (World.block_lt_of_cell? w _ hx192_0)).trans hx192_0
       replace hx192_1 := (HB.out.cell (World.block_lt_of_cell? w _ hx192_1)).trans hx192_1
       replace hx192_2 := (HB.out.cell (World.block_lt_of_cell? w _ hx192_2)).trans hx192_2
       replace hx192_3 := (HB.out.cell (World.block_lt_of_cell? w _ hx192_3)).trans hx192_3
       replace hx192_4 := (HB.out.cell (World.block_lt_of_cell? w _ hx192_4)).trans hx192_4
       replace hx192_5 := (HB.out.cell (World.block_lt_of_cell? w _ hx192_5)).trans hx192_5
       replace hx192_6 := (HB.out.cell (World.block_lt_of_cell? w _ hx192_6)).trans hx192_6
       replace hx192_7 := (HB.out.cell (World.block_lt_of_cell? w _ hx192_7)).trans hx192_7
       replace hx192_8 := (HB.out.cell (World.block_lt_of_cell? w _ hx192_8)).trans hx192_8
       replace hx192_9 := (HB.out.cell (World.block_lt_of_cell? w _ hx192_9)).trans hx192_9
       replace hx192_10 := (HB.out.cell (World.block_lt_of_cell? w _ hx192_10)).trans hx192_10
       replace hx192_11 := (HB.out.cell (World.block_lt_of_cell? w _ hx192_11)).trans hx192_11
       have HR192_10 := Aside0.mk hi192_10
       have HC192_10 := Aside0.mk hl192_10
       clear hi192_10 hl192_10
       replace p192 := eq_true p192
       replace q192 := eq_true q192
       go_upto_if 42 with (fail)
       go_cut [10] (fun v10 wc => ∃ (kq : Nat) (x10_15 : Int), v10 = .int .i64 x10_15 ∧ Aside0 (law20_PendParts.j2 kq l0 a1 a2 t179 t182 t185 x10_15 x11_2 = some r) ∧ Aside0 (kq ≤ k2) ∧ Aside0 (Kd.N k32 32 wc w.heap.size (fun k_ => some k_ ≠ (v183 : Value).ownBlock ∧ some k_ ≠ (v186 : Value).ownBlock) v180 t179) ∧ Aside0 (Kd.N k32 32 wc w.heap.size (fun k_ => some k_ ≠ (v180 : Value).ownBlock ∧ some k_ ≠ (v186 : Value).ownBlock) v183 t182) ∧ Aside0 (Kd.N k32 32 wc w.heap.size (fun k_ => some k_ ≠ (v180 : Value).ownBlock ∧ some k_ ≠ (v183 : Value).ownBlock) v186 t185) ∧ Aside0 (Below w.heap.size w wc))
       case first =>
        have H := HC16.out
        clear HC16
        by_cases c17 : ((rd_T32 l0 x11_2).f1) = a2
        ·rw [if_pos c17] at H
         have c17b0 : (((rd_T32 l0 x11_2).f1) == a2) = true := beq_iff_eq.mpr c17
         have c17b1 : (((rd_T32 l0 x11_2).f1) != a2) = false := bne_eq_false_iff_eq.mpr c17
         clear c17
         (first | rw [c17b0] | (simp only [i64_w, i32_w]; rw [c17b0]) | skip)
         have H' := Aside0.mk H
         clear H
         go_wp2
         go_meet
         case rel => exact ⟨_, (wrap64 (x10_2 + 1)), (by first | rfl | (simp; done) | (simp [*]; done) | (simp [bne_nil_]; done)), H', ⟨by have := HJ3.out; have := HK2.out; first | omega | exact Nat.le_refl _⟩, ⟨by (with_reducible repeat (first | apply Kd.N_alloc | apply Kd.N_drewN | apply Kd.N_drew)); exact HO_7.out⟩, ⟨by (with_reducible repeat (first | apply Kd.N_alloc | apply Kd.N_drewN | apply Kd.N_drew)); exact HO_8.out⟩, ⟨by (with_reducible repeat (first | apply Kd.N_alloc | apply Kd.N_drewN | apply Kd.N_drew)); exact HO_9.out⟩, ⟨by repeat (first | (with_reducible first | exact HB.out | apply below_alloc | apply pw_below_drewN | apply below_drew1) | exact HB.out)⟩⟩
        ·rw [if_neg c17] at H
         have c17b0 : (((rd_T32 l0 x11_2).f1) == a2) = false := beq_eq_false_iff_ne.mpr c17
         have c17b1 : (((rd_T32 l0 x11_2).f1) != a2) = true := bne_iff_ne.mpr c17
         (first | rw [c17b0] | (simp only [i64_w, i32_w]; rw [c17b0]) | skip)
         have H' := Aside0.mk H
         clear H
         go_wp2
         go_meet
         case rel => exact ⟨_, (x10_2), (by first | rfl | (simp; done) | (simp [*]; done) | (simp [bne_nil_]; done)), H', ⟨by have := HJ3.out; have := HK2.out; first | omega | exact Nat.le_refl _⟩, ⟨by (with_reducible repeat (first | apply Kd.N_alloc | apply Kd.N_drewN | apply Kd.N_drew)); exact HO_7.out⟩, ⟨by (with_reducible repeat (first | apply Kd.N_alloc | apply Kd.N_drewN | apply Kd.N_drew)); exact HO_8.out⟩, ⟨by (with_reducible repeat (first | apply Kd.N_alloc | apply Kd.N_drewN | apply Kd.N_drew)); exact HO_9.out⟩, ⟨by repeat (first | (with_reducible first | exact HB.out | apply below_alloc | apply pw_below_drewN | apply below_drew1) | exact HB.out)⟩⟩
       case rest =>
        clear HC16
        try clear c1
        try clear p1
        try clear q1
        try clear hx1
        try clear p2
        try clear c3
        try clear c5
        try clear c5b0
        try clear c5b1
        try clear p6
        try clear c7
        try clear c8
        try clear c9
        try clear c14
        try clear c14b0
        try clear c15
        try clear c15b0
        try clear c17
        try clear c17b0
        try clear c17b1
        try clear hx192_0
        try clear hx192_1
        try clear hx192_10
        try clear hx192_11
        try clear hx192_2
        try clear hx192_3
        try clear hx192_4
        try clear hx192_5
        try clear hx192_6
        try clear hx192_7
        try clear hx192_8
        try clear hx192_9
        try clear p192
        try clear p2
        try clear q192
        obtain ⟨kq, x10_15, rfl, HA, HJ15, HO_7, HO_8, HO_9, HB⟩ := hcut
        cases kq with
        | zero => exact absurd HA.out (by simp [law20_PendParts.j2])
        | succ kj15 =>
         have H := HA.out
         clear HA
         simp only [law20_PendParts.j2] at H
         by_cases c18 : 0 ≤ x11_2
         rotate_left
         ·rw [if_neg c18] at H
          exact absurd H (by simp)
         rw [if_pos c18] at H
         have c18b0 : decide (0 ≤ x11_2) = true := decide_eq_true c18
         clear c18
         by_cases c19 : x11_2 < (l0.length : Int)
         rotate_left
         ·rw [if_neg c19] at H
          exact absurd H (by simp)
         rw [if_pos c19] at H
         have c19b0 : decide (x11_2 < (l0.length : Int)) = true := decide_eq_true c19
         clear c19
         replace H := Option.bind_eq_some_iff.mp H
         obtain ⟨t194, A200, H⟩ := H
         replace H : (if ((decide (t194 ≥ 0)) != (decide (((rd_T32 l0 x11_2).f6) ≤ a1))) = true then (none) else ((pend_Find.f kj15 t182 ((rd_T32 l0 x11_2).f0)).bind fun t197 => (if ((decide (t197 ≥ 0)) != (decide (((rd_T32 l0 x11_2).f6) > a1))) = true then (none) else ((pend_Find.f kj15 t185 ((rd_T32 l0 x11_2).f0)).bind fun t200 => (if ((decide (t200 ≥ 0)) != (((rd_T32 l0 x11_2).f1) != a2)) = true then (none) else (law20_PendParts.l0 kj15 l0 a1 a2 t179 t182 t185 x10_15 (wrap64 (x11_2 + 1)))))))) = some r := H
         have A20 := Aside0.mk A200
         clear A200
         by_cases c21 : ((decide (t194 ≥ 0)) != (decide (((rd_T32 l0 x11_2).f6) ≤ a1))) = true
         ·rw [if_pos c21] at H
          have c21b0 : ((decide (t194 ≥ 0)) != (decide (((rd_T32 l0 x11_2).f6) ≤ a1))) = true := c21
          (try (have c21b1 : decide ((decide (t194 ≥ 0)) = (decide (((rd_T32 l0 x11_2).f6) ≤ a1))) = false := by simpa using c21))
          (try (have c21b2 : ((decide (t194 ≥ 0)) == (decide (((rd_T32 l0 x11_2).f6) ≤ a1))) = false := by simpa using c21))
          (try (have c21b3 : ¬ ((decide (t194 ≥ 0)) = (decide (((rd_T32 l0 x11_2).f6) ≤ a1))) := by simpa using c21))
          clear c21
          exact absurd H (by simp)
         ·rw [if_neg c21] at H
          have c21b0 : ((decide (t194 ≥ 0)) != (decide (((rd_T32 l0 x11_2).f6) ≤ a1))) = false := by simpa using c21
          (try (have c21b1 : decide ((decide (t194 ≥ 0)) = (decide (((rd_T32 l0 x11_2).f6) ≤ a1))) = true := by simpa using c21))
          (try (have c21b2 : ((decide (t194 ≥ 0)) == (decide (((rd_T32 l0 x11_2).f6) ≤ a1))) = true := by simpa using c21))
          clear c21
          replace H := Option.bind_eq_some_iff.mp H
          obtain ⟨t197, A220, H⟩ := H
          replace H : (if ((decide (t197 ≥ 0)) != (decide (((rd_T32 l0 x11_2).f6) > a1))) = true then (none) else ((pend_Find.f kj15 t185 ((rd_T32 l0 x11_2).f0)).bind fun t200 => (if ((decide (t200 ≥ 0)) != (((rd_T32 l0 x11_2).f1) != a2)) = true then (none) else (law20_PendParts.l0 kj15 l0 a1 a2 t179 t182 t185 x10_15 (wrap64 (x11_2 + 1)))))) = some r := H
          have A22 := Aside0.mk A220
          clear A220
          by_cases c23 : ((decide (t197 ≥ 0)) != (decide (((rd_T32 l0 x11_2).f6) > a1))) = true
          ·rw [if_pos c23] at H
           have c23b0 : ((decide (t197 ≥ 0)) != (decide (((rd_T32 l0 x11_2).f6) > a1))) = true := c23
           (try (have c23b1 : decide ((decide (t197 ≥ 0)) = (decide (((rd_T32 l0 x11_2).f6) > a1))) = false := by simpa using c23))
           (try (have c23b2 : ((decide (t197 ≥ 0)) == (decide (((rd_T32 l0 x11_2).f6) > a1))) = false := by simpa using c23))
           (try (have c23b3 : ¬ ((decide (t197 ≥ 0)) = (decide (((rd_T32 l0 x11_2).f6) > a1))) := by simpa using c23))
           clear c23
           exact absurd H (by simp)
          ·rw [if_neg c23] at H
           have c23b0 : ((decide (t197 ≥ 0)) != (decide (((rd_T32 l0 x11_2).f6) > a1))) = false := by simpa using c23
           (try (have c23b1 : decide ((decide (t197 ≥ 0)) = (decide (((rd_T32 l0 x11_2).f6) > a1))) = true := by simpa using c23))
           (try (have c23b2 : ((decide (t197 ≥ 0)) == (decide (((rd_T32 l0 x11_2).f6) > a1))) = true := by simpa using c23))
           clear c23
           replace H := Option.bind_eq_some_iff.mp H
           obtain ⟨t200, A240, H⟩ := H
           replace H : (if ((decide (t200 ≥ 0)) != (((rd_T32 l0 x11_2).f1) != a2)) = true then (none) else (law20_PendParts.l0 kj15 l0 a1 a2 t179 t182 t185 x10_15 (wrap64 (x11_2 + 1)))) = some r := H
           have A24 := Aside0.mk A240
           clear A240
           by_cases c25 : ((decide (t200 ≥ 0)) != (((rd_T32 l0 x11_2).f1) != a2)) = true
           ·rw [if_pos c25] at H
            exact absurd H (by simp)
           ·rw [if_neg c25] at H
            have c25b0 : ((decide (t200 ≥ 0)) != (((rd_T32 l0 x11_2).f1) != a2)) = false := by simpa using c25
            (try (have c25b1 : decide ((decide (t200 ≥ 0)) = (((rd_T32 l0 x11_2).f1) != a2)) = true := by simpa using c25))
            (try (have c25b2 : ((decide (t200 ≥ 0)) == (((rd_T32 l0 x11_2).f1) != a2)) = true := by simpa using c25))
            clear c25
            have H' := Aside0.mk H
            clear H
            try go_wp2
            have n0_ := Aside0.mk (Kd.N_drew HO_7.out)
            have n1_ := Aside0.mk (Kd.N_drew HO_8.out)
            have n2_ := Aside0.mk (Kd.N_drew HO_9.out)
            have n3_ := Aside0.mk (below_drew1 HB.out)
            clear HO_7
            clear HO_8
            clear HO_9
            clear HB
            have HO_7 := n0_
            have HO_8 := n1_
            have HO_9 := n2_
            have HB := n3_
            clear n0_ n1_ n2_ n3_
            have p193 : 0 ≤ (x11_2 : Int) := of_decide_eq_true (by first | (with_reducible assumption) | assumption)
            have q193 : x11_2 < (l0.length : Int) := of_decide_eq_true (by first | (with_reducible assumption) | assumption)
            obtain ⟨ad193, A193_10, c193_10, e193, hx193_0, hx193_1, hx193_2, hx193_3, hx193_4, hx193_5, hx193_6, hx193_7, hx193_8, hx193_9, hx193_10, hx193_11, hl193_10, hi193_10⟩ := at_T32 HR0.out x11_2 p193 q193
            have hw193_11 := hx193_11
            have hw193_10 := hx193_10
            have hw193_9 := hx193_9
            have hw193_8 := hx193_8
            have hw193_7 := hx193_7
            have hw193_6 := hx193_6
            have hw193_5 := hx193_5
            have hw193_4 := hx193_4
            have hw193_3 := hx193_3
            have hw193_2 := hx193_2
            have hw193_1 := hx193_1
            have hw193_0 := hx193_0
            obtain rfl : ad192 = ad193 := (by injection e193)
            replace hx193_0 := (HB.out.cell (World.block_lt_of_cell? w _ hx193_0)).trans hx193_0
            replace hx193_1 := (HB.out.cell (World.block_lt_of_cell? w _ hx193_1)).trans hx193_1
            replace hx193_2 := (HB.out.cell (World.block_lt_of_cell? w _ hx193_2)).trans hx193_2
            replace hx193_3 := (HB.out.cell (World.block_lt_of_cell? w _ hx193_3)).trans hx193_3
            replace hx193_4 := (HB.out.cell (World.block_lt_of_cell? w _ hx193_4)).trans hx193_4
            replace hx193_5 := (HB.out.cell (World.block_lt_of_cell? w _ hx193_5)).trans hx193_5
            replace hx193_6 := (HB.out.cell (World.block_lt_of_cell? w _ hx193_6)).trans hx193_6
            replace hx193_7 := (HB.out.cell (World.block_lt_of_cell? w _ hx193_7)).trans hx193_7
            replace hx193_8 := (HB.out.cell (World.block_lt_of_cell? w _ hx193_8)).trans hx193_8
            replace hx193_9 := (HB.out.cell (World.block_lt_of_cell? w _ hx193_9)).trans hx193_9
            replace hx193_10 := (HB.out.cell (World.block_lt_of_cell? w _ hx193_10)).trans hx193_10
            replace hx193_11 := (HB.out.cell (World.block_lt_of_cell? w _ hx193_11)).trans hx193_11
            have HR193_10 := Aside0.mk hi193_10
            have HC193_10 := Aside0.mk hl193_10
            clear hi193_10 hl193_10
            replace p193 := eq_true p193
            replace q193 := eq_true q193
            have p195 : 0 ≤ (x11_2 : Int) := of_decide_eq_true (by first | (with_reducible assumption) | assumption)
            have q195 : x11_2 < (l0.length : Int) := of_decide_eq_true (by first | (with_reducible assumption) | assumption)
            obtain ⟨ad195, A195_10, c195_10, e195, hx195_0, hx195_1, hx195_2, hx195_3, hx195_4, hx195_5, hx195_6, hx195_7, hx195_8, hx195_9, hx195_10, hx195_11, hl195_10, hi195_10⟩ := at_T32 HR0.out x11_2 p195 q195
            have hw195_11 := hx195_11
            have hw195_10 := hx195_10
            have hw195_9 := hx195_9
            have hw195_8 := hx195_8
            have hw195_7 := hx195_7
            have hw195_6 := hx195_6
            have hw195_5 := hx195_5
            have hw195_4 := hx195_4
            have hw195_3 := hx195_3
            have hw195_2 := hx195_2
            have hw195_1 := hx195_1
            have hw195_0 := hx195_0
            obtain rfl : ad192 = ad195 := (by injection e195)
            replace hx195_0 := (HB.out.cell (World.block_lt_of_cell? w _ hx195_0)).trans hx195_0
            replace hx195_1 := (HB.out.cell (World.block_lt_of_cell? w _ hx195_1)).trans hx195_1
            replace hx195_2 := (HB.out.cell (World.block_lt_of_cell? w _ hx195_2)).trans hx195_2
            replace hx195_3 := (HB.out.cell (World.block_lt_of_cell? w _ hx195_3)).trans hx195_3
            replace hx195_4 := (HB.out.cell (World.block_lt_of_cell? w _ hx195_4)).trans hx195_4
            replace hx195_5 := (HB.out.cell (World.block_lt_of_cell? w _ hx195_5)).trans hx195_5
            replace hx195_6 := (HB.out.cell (World.block_lt_of_cell? w _ hx195_6)).trans hx195_6
            replace hx195_7 := (HB.out.cell (World.block_lt_of_cell? w _ hx195_7)).trans hx195_7
            replace hx195_8 := (HB.out.cell (World.block_lt_of_cell? w _ hx195_8)).trans hx195_8
            replace hx195_9 := (HB.out.cell (World.block_lt_of_cell? w _ hx195_9)).trans hx195_9
            replace hx195_10 := (HB.out.cell (World.block_lt_of_cell? w _ hx195_10)).trans hx195_10
            replace hx195_11 := (HB.out.cell (World.block_lt_of_cell? w _ hx195_11)).trans hx195_11
            have HR195_10 := Aside0.mk hi195_10
            have HC195_10 := Aside0.mk hl195_10
            clear hi195_10 hl195_10
            replace p195 := eq_true p195
            replace q195 := eq_true q195
            have ea_ := Option.some.inj (hx193_10.symm.trans hx195_10)
            injection ea_ with ea_ en_ ec_
            subst ea_
            subst ec_
            clear en_
            obtain ⟨Ao27, co27, eo27⟩ := Kd.N_slice HO_7.out
            (first | subst eo27 | (injection eo27 with f1_ f2_ f3_; have f4_ := f1_.symm; have f5_ := f3_.symm; clear f1_ f2_ f3_; subst f4_; subst f5_))
            have p196 : 0 ≤ (x11_2 : Int) := of_decide_eq_true (by first | (with_reducible assumption) | assumption)
            have q196 : x11_2 < (l0.length : Int) := of_decide_eq_true (by first | (with_reducible assumption) | assumption)
            obtain ⟨ad196, A196_10, c196_10, e196, hx196_0, hx196_1, hx196_2, hx196_3, hx196_4, hx196_5, hx196_6, hx196_7, hx196_8, hx196_9, hx196_10, hx196_11, hl196_10, hi196_10⟩ := at_T32 HR0.out x11_2 p196 q196
            have hw196_11 := hx196_11
            have hw196_10 := hx196_10
            have hw196_9 := hx196_9
            have hw196_8 := hx196_8
            have hw196_7 := hx196_7
            have hw196_6 := hx196_6
            have hw196_5 := hx196_5
            have hw196_4 := hx196_4
            have hw196_3 := hx196_3
            have hw196_2 := hx196_2
            have hw196_1 := hx196_1
            have hw196_0 := hx196_0
            obtain rfl : ad192 = ad196 := (by injection e196)
            replace hx196_0 := (HB.out.cell (World.block_lt_of_cell? w _ hx196_0)).trans hx196_0
            replace hx196_1 := (HB.out.cell (World.block_lt_of_cell? w _ hx196_1)).trans hx196_1
            replace hx196_2 := (HB.out.cell (World.block_lt_of_cell? w _ hx196_2)).trans hx196_2
            replace hx196_3 := (HB.out.cell (World.block_lt_of_cell? w _ hx196_3)).trans hx196_3
            replace hx196_4 := (HB.out.cell (World.block_lt_of_cell? w _ hx196_4)).trans hx196_4
            replace hx196_5 := (HB.out.cell (World.block_lt_of_cell? w _ hx196_5)).trans hx196_5
            replace hx196_6 := (HB.out.cell (World.block_lt_of_cell? w _ hx196_6)).trans hx196_6
            replace hx196_7 := (HB.out.cell (World.block_lt_of_cell? w _ hx196_7)).trans hx196_7
            replace hx196_8 := (HB.out.cell (World.block_lt_of_cell? w _ hx196_8)).trans hx196_8
            replace hx196_9 := (HB.out.cell (World.block_lt_of_cell? w _ hx196_9)).trans hx196_9
            replace hx196_10 := (HB.out.cell (World.block_lt_of_cell? w _ hx196_10)).trans hx196_10
            replace hx196_11 := (HB.out.cell (World.block_lt_of_cell? w _ hx196_11)).trans hx196_11
            have HR196_10 := Aside0.mk hi196_10
            have HC196_10 := Aside0.mk hl196_10
            clear hi196_10 hl196_10
            replace p196 := eq_true p196
            replace q196 := eq_true q196
            have p198 : 0 ≤ (x11_2 : Int) := of_decide_eq_true (by first | (with_reducible assumption) | assumption)
            have q198 : x11_2 < (l0.length : Int) := of_decide_eq_true (by first | (with_reducible assumption) | assumption)
            obtain ⟨ad198, A198_10, c198_10, e198, hx198_0, hx198_1, hx198_2, hx198_3, hx198_4, hx198_5, hx198_6, hx198_7, hx198_8, hx198_9, hx198_10, hx198_11, hl198_10, hi198_10⟩ := at_T32 HR0.out x11_2 p198 q198
            have hw198_11 := hx198_11
            have hw198_10 := hx198_10
            have hw198_9 := hx198_9
            have hw198_8 := hx198_8
            have hw198_7 := hx198_7
            have hw198_6 := hx198_6
            have hw198_5 := hx198_5
            have hw198_4 := hx198_4
            have hw198_3 := hx198_3
            have hw198_2 := hx198_2
            have hw198_1 := hx198_1
            have hw198_0 := hx198_0
            obtain rfl : ad192 = ad198 := (by injection e198)
            replace hx198_0 := (HB.out.cell (World.block_lt_of_cell? w _ hx198_0)).trans hx198_0
            replace hx198_1 := (HB.out.cell (World.block_lt_of_cell? w _ hx198_1)).trans hx198_1
            replace hx198_2 := (HB.out.cell (World.block_lt_of_cell? w _ hx198_2)).trans hx198_2
            replace hx198_3 := (HB.out.cell (World.block_lt_of_cell? w _ hx198_3)).trans hx198_3
            replace hx198_4 := (HB.out.cell (World.block_lt_of_cell? w _ hx198_4)).trans hx198_4
            replace hx198_5 := (HB.out.cell (World.block_lt_of_cell? w _ hx198_5)).trans hx198_5
            replace hx198_6 := (HB.out.cell (World.block_lt_of_cell? w _ hx198_6)).trans hx198_6
            replace hx198_7 := (HB.out.cell (World.block_lt_of_cell? w _ hx198_7)).trans hx198_7
            replace hx198_8 := (HB.out.cell (World.block_lt_of_cell? w _ hx198_8)).trans hx198_8
            replace hx198_9 := (HB.out.cell (World.block_lt_of_cell? w _ hx198_9)).trans hx198_9
            replace hx198_10 := (HB.out.cell (World.block_lt_of_cell? w _ hx198_10)).trans hx198_10
            replace hx198_11 := (HB.out.cell (World.block_lt_of_cell? w _ hx198_11)).trans hx198_11
            have HR198_10 := Aside0.mk hi198_10
            have HC198_10 := Aside0.mk hl198_10
            clear hi198_10 hl198_10
            replace p198 := eq_true p198
            replace q198 := eq_true q198
            have p199 : 0 ≤ (x11_2 : Int) := of_decide_eq_true (by first | (with_reducible assumption) | assumption)
            have q199 : x11_2 < (l0.length : Int) := of_decide_eq_true (by first | (with_reducible assumption) | assumption)
            obtain ⟨ad199, A199_10, c199_10, e199, hx199_0, hx199_1, hx199_2, hx199_3, hx199_4, hx199_5, hx199_6, hx199_7, hx199_8, hx199_9, hx199_10, hx199_11, hl199_10, hi199_10⟩ := at_T32 HR0.out x11_2 p199 q199
            have hw199_11 := hx199_11
            have hw199_10 := hx199_10
            have hw199_9 := hx199_9
            have hw199_8 := hx199_8
            have hw199_7 := hx199_7
            have hw199_6 := hx199_6
            have hw199_5 := hx199_5
            have hw199_4 := hx199_4
            have hw199_3 := hx199_3
            have hw199_2 := hx199_2
            have hw199_1 := hx199_1
            have hw199_0 := hx199_0
            obtain rfl : ad192 = ad199 := (by injection e199)
            replace hx199_0 := (HB.out.cell (World.block_lt_of_cell? w _ hx199_0)).trans hx199_0
            replace hx199_1 := (HB.out.cell (World.block_lt_of_cell? w _ hx199_1)).trans hx199_1
            replace hx199_2 := (HB.out.cell (World.block_lt_of_cell? w _ hx199_2)).trans hx199_2
            replace hx199_3 := (HB.out.cell (World.block_lt_of_cell? w _ hx199_3)).trans hx199_3
            replace hx199_4 := (HB.out.cell (World.block_lt_of_cell? w _ hx199_4)).trans hx199_4
            replace hx199_5 := (HB.out.cell (World.block_lt_of_cell? w _ hx199_5)).trans hx199_5
            replace hx199_6 := (HB.out.cell (World.block_lt_of_cell? w _ hx199_6)).trans hx199_6
            replace hx199_7 := (HB.out.cell (World.block_lt_of_cell? w _ hx199_7)).trans hx199_7
            replace hx199_8 := (HB.out.cell (World.block_lt_of_cell? w _ hx199_8)).trans hx199_8
            replace hx199_9 := (HB.out.cell (World.block_lt_of_cell? w _ hx199_9)).trans hx199_9
            replace hx199_10 := (HB.out.cell (World.block_lt_of_cell? w _ hx199_10)).trans hx199_10
            replace hx199_11 := (HB.out.cell (World.block_lt_of_cell? w _ hx199_11)).trans hx199_11
            have HR199_10 := Aside0.mk hi199_10
            have HC199_10 := Aside0.mk hl199_10
            clear hi199_10 hl199_10
            replace p199 := eq_true p199
            replace q199 := eq_true q199
            have ea_ := Option.some.inj (hx198_10.symm.trans hx199_10)
            injection ea_ with ea_ en_ ec_
            subst ea_
            subst ec_
            clear en_
            have p201 : 0 ≤ (x11_2 : Int) := of_decide_eq_true (by first | (with_reducible assumption) | assumption)
            have q201 : x11_2 < (l0.length : Int) := of_decide_eq_true (by first | (with_reducible assumption) | assumption)
            obtain ⟨ad201, A201_10, c201_10, e201, hx201_0, hx201_1, hx201_2, hx201_3, hx201_4, hx201_5, hx201_6, hx201_7, hx201_8, hx201_9, hx201_10, hx201_11, hl201_10, hi201_10⟩ := at_T32 HR0.out x11_2 p201 q201
            have hw201_11 := hx201_11
            have hw201_10 := hx201_10
            have hw201_9 := hx201_9
            have hw201_8 := hx201_8
            have hw201_7 := hx201_7
            have hw201_6 := hx201_6
            have hw201_5 := hx201_5
            have hw201_4 := hx201_4
            have hw201_3 := hx201_3
            have hw201_2 := hx201_2
            have hw201_1 := hx201_1
            have hw201_0 := hx201_0
            obtain rfl : ad192 = ad201 := (by injection e201)
            replace hx201_0 := (HB.out.cell (World.block_lt_of_cell? w _ hx201_0)).trans hx201_0
            replace hx201_1 := (HB.out.cell (World.block_lt_of_cell? w _ hx201_1)).trans hx201_1
            replace hx201_2 := (HB.out.cell (World.block_lt_of_cell? w _ hx201_2)).trans hx201_2
            replace hx201_3 := (HB.out.cell (World.block_lt_of_cell? w _ hx201_3)).trans hx201_3
            replace hx201_4 := (HB.out.cell (World.block_lt_of_cell? w _ hx201_4)).trans hx201_4
            replace hx201_5 := (HB.out.cell (World.block_lt_of_cell? w _ hx201_5)).trans hx201_5
            replace hx201_6 := (HB.out.cell (World.block_lt_of_cell? w _ hx201_6)).trans hx201_6
            replace hx201_7 := (HB.out.cell (World.block_lt_of_cell? w _ hx201_7)).trans hx201_7
            replace hx201_8 := (HB.out.cell (World.block_lt_of_cell? w _ hx201_8)).trans hx201_8
            replace hx201_9 := (HB.out.cell (World.block_lt_of_cell? w _ hx201_9)).trans hx201_9
            replace hx201_10 := (HB.out.cell (World.block_lt_of_cell? w _ hx201_10)).trans hx201_10
            replace hx201_11 := (HB.out.cell (World.block_lt_of_cell? w _ hx201_11)).trans hx201_11
            have HR201_10 := Aside0.mk hi201_10
            have HC201_10 := Aside0.mk hl201_10
            clear hi201_10 hl201_10
            replace p201 := eq_true p201
            replace q201 := eq_true q201
            refine start_ (n := 52) (S := fun w' => w'.cell? (ad192.add ((x11_2).toNat * 12)) = some (.int .i64 ((rd_T32 l0 x11_2).f0)) ∧ w'.cell? ⟨(ad192.add ((x11_2).toNat * 12)).block, (ad192.add ((x11_2).toNat * 12)).off + 1, none⟩ = some (.int .i64 ((rd_T32 l0 x11_2).f1)) ∧ w'.cell? ⟨(ad192.add ((x11_2).toNat * 12)).block, (ad192.add ((x11_2).toNat * 12)).off + 2, none⟩ = some (.int .i64 ((rd_T32 l0 x11_2).f2)) ∧ w'.cell? ⟨(ad192.add ((x11_2).toNat * 12)).block, (ad192.add ((x11_2).toNat * 12)).off + 3, none⟩ = some (.int .i64 ((rd_T32 l0 x11_2).f3)) ∧ w'.cell? ⟨(ad192.add ((x11_2).toNat * 12)).block, (ad192.add ((x11_2).toNat * 12)).off + 4, none⟩ = some (.int .i64 ((rd_T32 l0 x11_2).f4)) ∧ w'.cell? ⟨(ad192.add ((x11_2).toNat * 12)).block, (ad192.add ((x11_2).toNat * 12)).off + 5, none⟩ = some (.int .i64 ((rd_T32 l0 x11_2).f5.f0)) ∧ w'.cell? ⟨(ad192.add ((x11_2).toNat * 12)).block, (ad192.add ((x11_2).toNat * 12)).off + 6, none⟩ = some (.int .i64 ((rd_T32 l0 x11_2).f5.f1)) ∧ w'.cell? ⟨(ad192.add ((x11_2).toNat * 12)).block, (ad192.add ((x11_2).toNat * 12)).off + 7, none⟩ = some (.int .i64 ((rd_T32 l0 x11_2).f5.f2)) ∧ w'.cell? ⟨(ad192.add ((x11_2).toNat * 12)).block, (ad192.add ((x11_2).toNat * 12)).off + 8, none⟩ = some (.int .i64 ((rd_T32 l0 x11_2).f5.f3)) ∧ w'.cell? ⟨(ad192.add ((x11_2).toNat * 12)).block, (ad192.add ((x11_2).toNat * 12)).off + 9, none⟩ = some (.int .i64 ((rd_T32 l0 x11_2).f5.f4)) ∧ w'.cell? ⟨(ad192.add ((x11_2).toNat * 12)).block, (ad192.add ((x11_2).toNat * 12)).off + 10, none⟩ = some (.slice A193_10 ((rd_T32 l0 x11_2).f5.f5).length c193_10) ∧ w'.cell? ⟨(ad192.add ((x11_2).toNat * 12)).block, (ad192.add ((x11_2).toNat * 12)).off + 11, none⟩ = some (.int .i64 ((rd_T32 l0 x11_2).f6)) ∧ w'.cell? (ad192.add ((x11_2).toNat * 12)) = some (.int .i64 ((rd_T32 l0 x11_2).f0)) ∧ w'.cell? ⟨(ad192.add ((x11_2).toNat * 12)).block, (ad192.add ((x11_2).toNat * 12)).off + 1, none⟩ = some (.int .i64 ((rd_T32 l0 x11_2).f1)) ∧ w'.cell? ⟨(ad192.add ((x11_2).toNat * 12)).block, (ad192.add ((x11_2).toNat * 12)).off + 2, none⟩ = some (.int .i64 ((rd_T32 l0 x11_2).f2)) ∧ w'.cell? ⟨(ad192.add ((x11_2).toNat * 12)).block, (ad192.add ((x11_2).toNat * 12)).off + 3, none⟩ = some (.int .i64 ((rd_T32 l0 x11_2).f3)) ∧ w'.cell? ⟨(ad192.add ((x11_2).toNat * 12)).block, (ad192.add ((x11_2).toNat * 12)).off + 4, none⟩ = some (.int .i64 ((rd_T32 l0 x11_2).f4)) ∧ w'.cell? ⟨(ad192.add ((x11_2).toNat * 12)).block, (ad192.add ((x11_2).toNat * 12)).off + 5, none⟩ = some (.int .i64 ((rd_T32 l0 x11_2).f5.f0)) ∧ w'.cell? ⟨(ad192.add ((x11_2).toNat * 12)).block, (ad192.add ((x11_2).toNat * 12)).off + 6, none⟩ = some (.int .i64 ((rd_T32 l0 x11_2).f5.f1)) ∧ w'.cell? ⟨(ad192.add ((x11_2).toNat * 12)).block, (ad192.add ((x11_2).toNat * 12)).off + 7, none⟩ = some (.int .i64 ((rd_T32 l0 x11_2).f5.f2)) ∧ w'.cell? ⟨(ad192.add ((x11_2).toNat * 12)).block, (ad192.add ((x11_2).toNat * 12)).off + 8, none⟩ = some (.int .i64 ((rd_T32 l0 x11_2).f5.f3)) ∧ w'.cell? ⟨(ad192.add ((x11_2).toNat * 12)).block, (ad192.add ((x11_2).toNat * 12)).off + 9, none⟩ = some (.int .i64 ((rd_T32 l0 x11_2).f5.f4)) ∧ w'.cell? ⟨(ad192.add ((x11_2).toNat * 12)).block, (ad192.add ((x11_2).toNat * 12)).off + 10, none⟩ = some (.slice A193_10 ((rd_T32 l0 x11_2).f5.f5).length c193_10) ∧ w'.cell? ⟨(ad192.add ((x11_2).toNat * 12)).block, (ad192.add ((x11_2).toNat * 12)).off + 11, none⟩ = some (.int .i64 ((rd_T32 l0 x11_2).f6)) ∧ w'.cell? (ad192.add ((x11_2).toNat * 12)) = some (.int .i64 ((rd_T32 l0 x11_2).f0)) ∧ w'.cell? ⟨(ad192.add ((x11_2).toNat * 12)).block, (ad192.add ((x11_2).toNat * 12)).off + 1, none⟩ = some (.int .i64 ((rd_T32 l0 x11_2).f1)) ∧ w'.cell? ⟨(ad192.add ((x11_2).toNat * 12)).block, (ad192.add ((x11_2).toNat * 12)).off + 2, none⟩ = some (.int .i64 ((rd_T32 l0 x11_2).f2)) ∧ w'.cell? ⟨(ad192.add ((x11_2).toNat * 12)).block, (ad192.add ((x11_2).toNat * 12)).off + 3, none⟩ = some (.int .i64 ((rd_T32 l0 x11_2).f3)) ∧ w'.cell? ⟨(ad192.add ((x11_2).toNat * 12)).block, (ad192.add ((x11_2).toNat * 12)).off + 4, none⟩ = some (.int .i64 ((rd_T32 l0 x11_2).f4)) ∧ w'.cell? ⟨(ad192.add ((x11_2).toNat * 12)).block, (ad192.add ((x11_2).toNat * 12)).off + 5, none⟩ = some (.int .i64 ((rd_T32 l0 x11_2).f5.f0)) ∧ w'.cell? ⟨(ad192.add ((x11_2).toNat * 12)).block, (ad192.add ((x11_2).toNat * 12)).off + 6, none⟩ = some (.int .i64 ((rd_T32 l0 x11_2).f5.f1)) ∧ w'.cell? ⟨(ad192.add ((x11_2).toNat * 12)).block, (ad192.add ((x11_2).toNat * 12)).off + 7, none⟩ = some (.int .i64 ((rd_T32 l0 x11_2).f5.f2)) ∧ w'.cell? ⟨(ad192.add ((x11_2).toNat * 12)).block, (ad192.add ((x11_2).toNat * 12)).off + 8, none⟩ = some (.int .i64 ((rd_T32 l0 x11_2).f5.f3)) ∧ w'.cell? ⟨(ad192.add ((x11_2).toNat * 12)).block, (ad192.add ((x11_2).toNat * 12)).off + 9, none⟩ = some (.int .i64 ((rd_T32 l0 x11_2).f5.f4)) ∧ w'.cell? ⟨(ad192.add ((x11_2).toNat * 12)).block, (ad192.add ((x11_2).toNat * 12)).off + 10, none⟩ = some (.slice A196_10 ((rd_T32 l0 x11_2).f5.f5).length c196_10) ∧ w'.cell? ⟨(ad192.add ((x11_2).toNat * 12)).block, (ad192.add ((x11_2).toNat * 12)).off + 11, none⟩ = some (.int .i64 ((rd_T32 l0 x11_2).f6)) ∧ w'.cell? (ad192.add ((x11_2).toNat * 12)) = some (.int .i64 ((rd_T32 l0 x11_2).f0)) ∧ w'.cell? ⟨(ad192.add ((x11_2).toNat * 12)).block, (ad192.add ((x11_2).toNat * 12)).off + 1, none⟩ = some (.int .i64 ((rd_T32 l0 x11_2).f1)) ∧ w'.cell? ⟨(ad192.add ((x11_2).toNat * 12)).block, (ad192.add ((x11_2).toNat * 12)).off + 2, none⟩ = some (.int .i64 ((rd_T32 l0 x11_2).f2)) ∧ w'.cell? ⟨(ad192.add ((x11_2).toNat * 12)).block, (ad192.add ((x11_2).toNat * 12)).off + 3, none⟩ = some (.int .i64 ((rd_T32 l0 x11_2).f3)) ∧ w'.cell? ⟨(ad192.add ((x11_2).toNat * 12)).block, (ad192.add ((x11_2).toNat * 12)).off + 4, none⟩ = some (.int .i64 ((rd_T32 l0 x11_2).f4)) ∧ w'.cell? ⟨(ad192.add ((x11_2).toNat * 12)).block, (ad192.add ((x11_2).toNat * 12)).off + 5, none⟩ = some (.int .i64 ((rd_T32 l0 x11_2).f5.f0)) ∧ w'.cell? ⟨(ad192.add ((x11_2).toNat * 12)).block, (ad192.add ((x11_2).toNat * 12)).off + 6, none⟩ = some (.int .i64 ((rd_T32 l0 x11_2).f5.f1)) ∧ w'.cell? ⟨(ad192.add ((x11_2).toNat * 12)).block, (ad192.add ((x11_2).toNat * 12)).off + 7, none⟩ = some (.int .i64 ((rd_T32 l0 x11_2).f5.f2)) ∧ w'.cell? ⟨(ad192.add ((x11_2).toNat * 12)).block, (ad192.add ((x11_2).toNat * 12)).off + 8, none⟩ = some (.int .i64 ((rd_T32 l0 x11_2).f5.f3)) ∧ w'.cell? ⟨(ad192.add ((x11_2).toNat * 12)).block, (ad192.add ((x11_2).toNat * 12)).off + 9, none⟩ = some (.int .i64 ((rd_T32 l0 x11_2).f5.f4)) ∧ w'.cell? ⟨(ad192.add ((x11_2).toNat * 12)).block, (ad192.add ((x11_2).toNat * 12)).off + 10, none⟩ = some (.slice A198_10 ((rd_T32 l0 x11_2).f5.f5).length c198_10) ∧ w'.cell? ⟨(ad192.add ((x11_2).toNat * 12)).block, (ad192.add ((x11_2).toNat * 12)).off + 11, none⟩ = some (.int .i64 ((rd_T32 l0 x11_2).f6)) ∧ w'.cell? (ad192.add ((x11_2).toNat * 12)) = some (.int .i64 ((rd_T32 l0 x11_2).f0)) ∧ w'.cell? ⟨(ad192.add ((x11_2).toNat * 12)).block, (ad192.add ((x11_2).toNat * 12)).off + 1, none⟩ = some (.int .i64 ((rd_T32 l0 x11_2).f1)) ∧ w'.cell? ⟨(ad192.add ((x11_2).toNat * 12)).block, (ad192.add ((x11_2).toNat * 12)).off + 2, none⟩ = some (.int .i64 ((rd_T32 l0 x11_2).f2)) ∧ w'.cell? ⟨(ad192.add ((x11_2).toNat * 12)).block, (ad192.add ((x11_2).toNat * 12)).off + 3, none⟩ = some (.int .i64 ((rd_T32 l0 x11_2).f3)) ∧ w'.cell? ⟨(ad192.add ((x11_2).toNat * 12)).block, (ad192.add ((x11_2).toNat * 12)).off + 4, none⟩ = some (.int .i64 ((rd_T32 l0 x11_2).f4)) ∧ w'.cell? ⟨(ad192.add ((x11_2).toNat * 12)).block, (ad192.add ((x11_2).toNat * 12)).off + 5, none⟩ = some (.int .i64 ((rd_T32 l0 x11_2).f5.f0)) ∧ w'.cell? ⟨(ad192.add ((x11_2).toNat * 12)).block, (ad192.add ((x11_2).toNat * 12)).off + 6, none⟩ = some (.int .i64 ((rd_T32 l0 x11_2).f5.f1)) ∧ w'.cell? ⟨(ad192.add ((x11_2).toNat * 12)).block, (ad192.add ((x11_2).toNat * 12)).off + 7, none⟩ = some (.int .i64 ((rd_T32 l0 x11_2).f5.f2)) ∧ w'.cell? ⟨(ad192.add ((x11_2).toNat * 12)).block, (ad192.add ((x11_2).toNat * 12)).off + 8, none⟩ = some (.int .i64 ((rd_T32 l0 x11_2).f5.f3)) ∧ w'.cell? ⟨(ad192.add ((x11_2).toNat * 12)).block, (ad192.add ((x11_2).toNat * 12)).off + 9, none⟩ = some (.int .i64 ((rd_T32 l0 x11_2).f5.f4)) ∧ w'.cell? ⟨(ad192.add ((x11_2).toNat * 12)).block, (ad192.add ((x11_2).toNat * 12)).off + 10, none⟩ = some (.slice A198_10 ((rd_T32 l0 x11_2).f5.f5).length c198_10) ∧ w'.cell? ⟨(ad192.add ((x11_2).toNat * 12)).block, (ad192.add ((x11_2).toNat * 12)).off + 11, none⟩ = some (.int .i64 ((rd_T32 l0 x11_2).f6)) ∧ w'.cell? (ad192.add ((x11_2).toNat * 12)) = some (.int .i64 ((rd_T32 l0 x11_2).f0)) ∧ w'.cell? ⟨(ad192.add ((x11_2).toNat * 12)).block, (ad192.add ((x11_2).toNat * 12)).off + 1, none⟩ = some (.int .i64 ((rd_T32 l0 x11_2).f1)) ∧ w'.cell? ⟨(ad192.add ((x11_2).toNat * 12)).block, (ad192.add ((x11_2).toNat * 12)).off + 2, none⟩ = some (.int .i64 ((rd_T32 l0 x11_2).f2)) ∧ w'.cell? ⟨(ad192.add ((x11_2).toNat * 12)).block, (ad192.add ((x11_2).toNat * 12)).off + 3, none⟩ = some (.int .i64 ((rd_T32 l0 x11_2).f3)) ∧ w'.cell? ⟨(ad192.add ((x11_2).toNat * 12)).block, (ad192.add ((x11_2).toNat * 12)).off + 4, none⟩ = some (.int .i64 ((rd_T32 l0 x11_2).f4)) ∧ w'.cell? ⟨(ad192.add ((x11_2).toNat * 12)).block, (ad192.add ((x11_2).toNat * 12)).off + 5, none⟩ = some (.int .i64 ((rd_T32 l0 x11_2).f5.f0)) ∧ w'.cell? ⟨(ad192.add ((x11_2).toNat * 12)).block, (ad192.add ((x11_2).toNat * 12)).off + 6, none⟩ = some (.int .i64 ((rd_T32 l0 x11_2).f5.f1)) ∧ w'.cell? ⟨(ad192.add ((x11_2).toNat * 12)).block, (ad192.add ((x11_2).toNat * 12)).off + 7, none⟩ = some (.int .i64 ((rd_T32 l0 x11_2).f5.f2)) ∧ w'.cell? ⟨(ad192.add ((x11_2).toNat * 12)).block, (ad192.add ((x11_2).toNat * 12)).off + 8, none⟩ = some (.int .i64 ((rd_T32 l0 x11_2).f5.f3)) ∧ w'.cell? ⟨(ad192.add ((x11_2).toNat * 12)).block, (ad192.add ((x11_2).toNat * 12)).off + 9, none⟩ = some (.int .i64 ((rd_T32 l0 x11_2).f5.f4)) ∧ w'.cell? ⟨(ad192.add ((x11_2).toNat * 12)).block, (ad192.add ((x11_2).toNat * 12)).off + 10, none⟩ = some (.slice A201_10 ((rd_T32 l0 x11_2).f5.f5).length c201_10) ∧ w'.cell? ⟨(ad192.add ((x11_2).toNat * 12)).block, (ad192.add ((x11_2).toNat * 12)).off + 11, none⟩ = some (.int .i64 ((rd_T32 l0 x11_2).f6))) (ds := []) #[false, false, false, false, false, false, false, false, false, false, false, false, false, false, false, false, false, false, false, false, false, false, false, false, false, false, false, false, false, false, false, false, false, false, false, false, false, false, false, false, false, false, false, false, false, false, false, false, false, false, false, false] (by kernel_rfl) rfl rfl ⟨((HB.out.cell (World.block_lt_of_cell? w _ hw193_0)).trans hw193_0), ((HB.out.cell (World.block_lt_of_cell? w _ hw193_1)).trans hw193_1), ((HB.out.cell (World.block_lt_of_cell? w _ hw193_2)).trans hw193_2), ((HB.out.cell (World.block_lt_of_cell? w _ hw193_3)).trans hw193_3), ((HB.out.cell (World.block_lt_of_cell? w _ hw193_4)).trans hw193_4), ((HB.out.cell (World.block_lt_of_cell? w _ hw193_5)).trans hw193_5), ((HB.out.cell (World.block_lt_of_cell? w _ hw193_6)).trans hw193_6), ((HB.out.cell (World.block_lt_of_cell? w _ hw193_7)).trans hw193_7), ((HB.out.cell (World.block_lt_of_cell? w _ hw193_8)).trans hw193_8), ((HB.out.cell (World.block_lt_of_cell? w _ hw193_9)).trans hw193_9), ((HB.out.cell (World.block_lt_of_cell? w _ hw193_10)).trans hw193_10), ((HB.out.cell (World.block_lt_of_cell? w _ hw193_11)).trans hw193_11), ((HB.out.cell (World.block_lt_of_cell? w _ hw195_0)).trans hw195_0), ((HB.out.cell (World.block_lt_of_cell? w _ hw195_1)).trans hw195_1), ((HB.out.cell (World.block_lt_of_cell? w _ hw195_2)).trans hw195_2), ((HB.out.cell (World.block_lt_of_cell? w _ hw195_3)).trans hw195_3), ((HB.out.cell (World.block_lt_of_cell? w _ hw195_4)).trans hw195_4), ((HB.out.cell (World.block_lt_of_cell? w _ hw195_5)).trans hw195_5), ((HB.out.cell (World.block_lt_of_cell? w _ hw195_6)).trans hw195_6), ((HB.out.cell (World.block_lt_of_cell? w _ hw195_7)).trans hw195_7), ((HB.out.cell (World.block_lt_of_cell? w _ hw195_8)).trans hw195_8), ((HB.out.cell (World.block_lt_of_cell? w _ hw195_9)).trans hw195_9), ((HB.out.cell (World.block_lt_of_cell? w _ hw195_10)).trans hw195_10), ((HB.out.cell (World.block_lt_of_cell? w _ hw195_11)).trans hw195_11), ((HB.out.cell (World.block_lt_of_cell? w _ hw196_0)).trans hw196_0), ((HB.out.cell (World.block_lt_of_cell? w _ hw196_1)).trans hw196_1), ((HB.out.cell (World.block_lt_of_cell? w _ hw196_2)).trans hw196_2), ((HB.out.cell (World.block_lt_of_cell? w _ hw196_3)).trans hw196_3), ((HB.out.cell (World.block_lt_of_cell? w _ hw196_4)).trans hw196_4), ((HB.out.cell (World.block_lt_of_cell? w _ hw196_5)).trans hw196_5), ((HB.out.cell (World.block_lt_of_cell? w _ hw196_6)).trans hw196_6), ((HB.out.cell (World.block_lt_of_cell? w _ hw196_7)).trans hw196_7), ((HB.out.cell (World.block_lt_of_cell? w _ hw196_8)).trans hw196_8), ((HB.out.cell (World.block_lt_of_cell? w _ hw196_9)).trans hw196_9), ((HB.out.cell (World.block_lt_of_cell? w _ hw196_10)).trans hw196_10), ((HB.out.cell (World.block_lt_of_cell? w _ hw196_11)).trans hw196_11), ((HB.out.cell (World.block_lt_of_cell? w _ hw198_0)).trans hw198_0), ((HB.out.cell (World.block_lt_of_cell? w _ hw198_1)).trans hw198_1), ((HB.out.cell (World.block_lt_of_cell? w _ hw198_2)).trans hw198_2), ((HB.out.cell (World.block_lt_of_cell? w _ hw198_3)).trans hw198_3), ((HB.out.cell (World.block_lt_of_cell? w _ hw198_4)).trans hw198_4), ((HB.out.cell (World.block_lt_of_cell? w _ hw198_5)).trans hw198_5), ((HB.out.cell (World.block_lt_of_cell? w _ hw198_6)).trans hw198_6), ((HB.out.cell (World.block_lt_of_cell? w _ hw198_7)).trans hw198_7), ((HB.out.cell (World.block_lt_of_cell? w _ hw198_8)).trans hw198_8), ((HB.out.cell (World.block_lt_of_cell? w _ hw198_9)).trans hw198_9), ((HB.out.cell (World.block_lt_of_cell? w _ hw198_10)).trans hw198_10), ((HB.out.cell (World.block_lt_of_cell? w _ hw198_11)).trans hw198_11), ((HB.out.cell (World.block_lt_of_cell? w _ hw199_0)).trans hw199_0), ((HB.out.cell (World.block_lt_of_cell? w _ hw199_1)).trans hw199_1), ((HB.out.cell (World.block_lt_of_cell? w _ hw199_2)).trans hw199_2), ((HB.out.cell (World.block_lt_of_cell? w _ hw199_3)).trans hw199_3), ((HB.out.cell (World.block_lt_of_cell? w _ hw199_4)).trans hw199_4), ((HB.out.cell (World.block_lt_of_cell? w _ hw199_5)).trans hw199_5), ((HB.out.cell (World.block_lt_of_cell? w _ hw199_6)).trans hw199_6), ((HB.out.cell (World.block_lt_of_cell? w _ hw199_7)).trans hw199_7), ((HB.out.cell (World.block_lt_of_cell? w _ hw199_8)).trans hw199_8), ((HB.out.cell (World.block_lt_of_cell? w _ hw199_9)).trans hw199_9), ((HB.out.cell (World.block_lt_of_cell? w _ hw199_10)).trans hw199_10), ((HB.out.cell (World.block_lt_of_cell? w _ hw199_11)).trans hw199_11), ((HB.out.cell (World.block_lt_of_cell? w _ hw201_0)).trans hw201_0), ((HB.out.cell (World.block_lt_of_cell? w _ hw201_1)).trans hw201_1), ((HB.out.cell (World.block_lt_of_cell? w _ hw201_2)).trans hw201_2), ((HB.out.cell (World.block_lt_of_cell? w _ hw201_3)).trans hw201_3), ((HB.out.cell (World.block_lt_of_cell? w _ hw201_4)).trans hw201_4), ((HB.out.cell (World.block_lt_of_cell? w _ hw201_5)).trans hw201_5), ((HB.out.cell (World.block_lt_of_cell? w _ hw201_6)).trans hw201_6), ((HB.out.cell (World.block_lt_of_cell? w _ hw201_7)).trans hw201_7), ((HB.out.cell (World.block_lt_of_cell? w _ hw201_8)).trans hw201_8), ((HB.out.cell (World.block_lt_of_cell? w _ hw201_9)).trans hw201_9), ((HB.out.cell (World.block_lt_of_cell? w _ hw201_10)).trans hw201_10), ((HB.out.cell (World.block_lt_of_cell? w _ hw201_11)).trans hw201_11)⟩ (fun hHeld => ?_); refine with_tabW law20_PendParts.tab11 law20_PendParts.bits11 (fun HT_ HW_ => ?_)
            generalize wc.drew = w26 at HO_7 HO_8 HO_9 HB HR193_10 HR195_10 HR196_10 HR198_10 HR199_10 HR201_10 hx193_0 hx193_1 hx193_10 hx193_11 hx193_2 hx193_3 hx193_4 hx193_5 hx193_6 hx193_7 hx193_8 hx193_9 hx195_0 hx195_1 hx195_10 hx195_11 hx195_2 hx195_3 hx195_4 hx195_5 hx195_6 hx195_7 hx195_8 hx195_9 hx196_0 hx196_1 hx196_10 hx196_11 hx196_2 hx196_3 hx196_4 hx196_5 hx196_6 hx196_7 hx196_8 hx196_9 hx198_0 hx198_1 hx198_10 hx198_11 hx198_2 hx198_3 hx198_4 hx198_5 hx198_6 hx198_7 hx198_8 hx198_9 hx199_0 hx199_1 hx199_10 hx199_11 hx199_2 hx199_3 hx199_4 hx199_5 hx199_6 hx199_7 hx199_8 hx199_9 hx201_0 hx201_1 hx201_10 hx201_11 hx201_2 hx201_3 hx201_4 hx201_5 hx201_6 hx201_7 hx201_8 hx201_9 hHeld ⊢
            refine pure_ (i := 0) (N := some 45) (v := ?_) (a' := ?_) #[true, false, false, false, false, false, false, false, false, false, false, false, false, false, false, false, false, false, false, false, false, false, false, false, false, false, false, false, false, false, false, false, false, false, false, false, false, false, false, false, false, false, false, false, false, false, false, false, false, false, false, false] rfl rfl (any_of HT_.out (by kernel_rfl)) (fun _ _ _ h => h) (Or.inl ⟨by rfl, ?_⟩) ?_ ?_
            rotate_left
            ·intro w'
             go_simp
             with_reducible rfl
            rotate_left
            ·simp only [Act.put, List.setIfInBounds_toArray, List.set_cons_zero, List.set_cons_succ, i64_w, i32_w]
             rfl
            refine pure_ (i := 1) (N := some 46) (v := ?_) (a' := ?_) #[true, true, false, false, false, false, false, false, false, false, false, false, false, false, false, false, false, false, false, false, false, false, false, false, false, false, false, false, false, false, false, false, false, false, false, false, false, false, false, false, false, false, false, false, false, false, false, false, false, false, false, false] rfl rfl (any_of HT_.out (by kernel_rfl)) (fun _ _ _ h => h) (Or.inl ⟨by rfl, ?_⟩) ?_ ?_
            rotate_left
            ·intro w'
             go_simp
             with_reducible rfl
            rotate_left
            ·simp only [Act.put, List.setIfInBounds_toArray, List.set_cons_zero, List.set_cons_succ, i64_w, i32_w]
             rfl
            refine pure_ (i := 2) (N := some 47) (v := ?_) (a' := ?_) #[true, true, true, false, false, false, false, false, false, false, false, false, false, false, false, false, false, false, false, false, false, false, false, false, false, false, false, false, false, false, false, false, false, false, false, false, false, false, false, false, false, false, false, false, false, false, false, false, false, false, false, false] rfl rfl (any_of HT_.out (by kernel_rfl)) (fun _ _ _ h => h) (Or.inl ⟨by rfl, ?_⟩) ?_ ?_
            rotate_left
            ·intro w'
             go_simp
             with_reducible rfl
            rotate_left
            ·simp only [Act.put, List.setIfInBounds_toArray, List.set_cons_zero, List.set_cons_succ, i64_w, i32_w]
             rfl
            refine pure_ (i := 3) (N := some 48) (v := ?_) (a' := ?_) #[true, true, true, true, false, false, false, false, false, false, false, false, false, false, false, false, false, false, false, false, false, false, false, false, false, false, false, false, false, false, false, false, false, false, false, false, false, false, false, false, false, false, false, false, false, false, false, false, false, false, false, false] rfl rfl (any_of HT_.out (by kernel_rfl)) (fun _ _ _ h => h) (Or.inl ⟨by rfl, ?_⟩) ?_ ?_
            rotate_left
            ·intro w'
             go_simp
             with_reducible rfl
            rotate_left
            ·simp only [Act.put, List.setIfInBounds_toArray, List.set_cons_zero, List.set_cons_succ, i64_w, i32_w]
             rfl
            refine pure_ (i := 4) (N := some 49) (v := ?_) (a' := ?_) #[true, true, true, true, true, false, false, false, false, false, false, false, false, false, false, false, false, false, false, false, false, false, false, false, false, false, false, false, false, false, false, false, false, false, false, false, false, false, false, false, false, false, false, false, false, false, false, false, false, false, false, false] rfl rfl (any_of HT_.out (by kernel_rfl)) (fun _ _ _ h => h) (Or.inl ⟨by rfl, ?_⟩) ?_ ?_
            rotate_left
            ·intro w'
             go_simp
             with_reducible rfl
            rotate_left
            ·simp only [Act.put, List.setIfInBounds_toArray, List.set_cons_zero, List.set_cons_succ, i64_w, i32_w]
             rfl
            refine pure_ (i := 8) (N := some 53) (v := ?_) (a' := ?_) #[true, true, true, true, true, false, false, false, true, false, false, false, false, false, false, false, false, false, false, false, false, false, false, false, false, false, false, false, false, false, false, false, false, false, false, false, false, false, false, false, false, false, false, false, false, false, false, false, false, false, false, false] rfl rfl (any_of HT_.out (by kernel_rfl)) (fun _ _ _ h => h) (Or.inl ⟨by rfl, ?_⟩) ?_ ?_
            rotate_left
            ·intro w'
             go_simp
             with_reducible rfl
            rotate_left
            ·simp only [Act.put, List.setIfInBounds_toArray, List.set_cons_zero, List.set_cons_succ, i64_w, i32_w]
             rfl
            refine pure_ (i := 9) (N := some 54) (v := ?_) (a' := ?_) #[true, true, true, true, true, false, false, false, true, true, false, false, false, false, false, false, false, false, false, false, false, false, false, false, false, false, false, false, false, false, false, false, false, false, false, false, false, false, false, false, false, false, false, false, false, false, false, false, false, false, false, false] rfl rfl (any_of HT_.out (by kernel_rfl)) (fun _ _ _ h => h) (Or.inl ⟨by rfl, ?_⟩) ?_ ?_
            rotate_left
            ·intro w'
             go_simp
             with_reducible rfl
            rotate_left
            ·simp only [Act.put, List.setIfInBounds_toArray, List.set_cons_zero, List.set_cons_succ, i64_w, i32_w]
             rfl
            refine pure_ (i := 10) (N := some 55) (v := ?_) (a' := ?_) #[true, true, true, true, true, false, false, false, true, true, true, false, false, false, false, false, false, false, false, false, false, false, false, false, false, false, false, false, false, false, false, false, false, false, false, false, false, false, false, false, false, false, false, false, false, false, false, false, false, false, false, false] rfl rfl (any_of HT_.out (by kernel_rfl)) (fun _ _ _ h => h) (Or.inl ⟨by rfl, ?_⟩) ?_ ?_
            rotate_left
            ·intro w'
             go_simp
             with_reducible rfl
            rotate_left
            ·simp only [Act.put, List.setIfInBounds_toArray, List.set_cons_zero, List.set_cons_succ, i64_w, i32_w]
             rfl
            refine pure_ (i := 11) (N := some 56) (v := ?_) (a' := ?_) #[true, true, true, true, true, false, false, false, true, true, true, true, false, false, false, false, false, false, false, false, false, false, false, false, false, false, false, false, false, false, false, false, false, false, false, false, false, false, false, false, false, false, false, false, false, false, false, false, false, false, false, false] rfl rfl (any_of HT_.out (by kernel_rfl)) (fun _ _ _ h => h) (Or.inl ⟨by rfl, ?_⟩) ?_ ?_
            rotate_left
            ·intro w'
             go_simp
             with_reducible rfl
            rotate_left
            ·simp only [Act.put, List.setIfInBounds_toArray, List.set_cons_zero, List.set_cons_succ, i64_w, i32_w]
             rfl
            refine pure_ (i := 13) (N := some 58) (v := ?_) (a' := ?_) #[true, true, true, true, true, false, false, false, true, true, true, true, false, true, false, false, false, false, false, false, false, false, false, false, false, false, false, false, false, false, false, false, false, false, false, false, false, false, false, false, false, false, false, false, false, false, false, false, false, false, false, false] rfl rfl (any_of HT_.out (by kernel_rfl)) (fun _ _ _ h => h) (Or.inl ⟨by rfl, ?_⟩) ?_ ?_
            rotate_left
            ·intro w'
             go_simp
             with_reducible rfl
            rotate_left
            ·simp only [Act.put, List.setIfInBounds_toArray, List.set_cons_zero, List.set_cons_succ, i64_w, i32_w]
             rfl
            refine take_ (i := 5) (N := some 50) (v := ?_) (a' := ?_) #[true, true, true, true, true, true, false, false, true, true, true, true, false, true, false, false, false, false, false, false, false, false, false, false, false, false, false, false, false, false, false, false, false, false, false, false, false, false, false, false, false, false, false, false, false, false, false, false, false, false, false, false] rfl rfl (take_ofW HT_.out HW_.out (by kernel_rfl)) (fun _ _ _ h => h) (Or.inl ⟨by rfl, ?_⟩) hHeld ?_ ?_
            rotate_left
            ·rintro w' ⟨s0, s1, s2, s3, s4, s5, s6, s7, s8, s9, s10, s11, s12, s13, s14, s15, s16, s17, s18, s19, s20, s21, s22, s23, s24, s25, s26, s27, s28, s29, s30, s31, s32, s33, s34, s35, s36, s37, s38, s39, s40, s41, s42, s43, s44, s45, s46, s47, s48, s49, s50, s51, s52, s53, s54, s55, s56, s57, s58, s59, s60, s61, s62, s63, s64, s65, s66, s67, s68, s69, s70, s71⟩
             go_simp
             with_reducible rfl
            rotate_left
            ·simp only [Act.put, List.setIfInBounds_toArray, List.set_cons_zero, List.set_cons_succ, i64_w, i32_w]
             rfl
            refine take_ (i := 12) (N := some 57) (v := ?_) (a' := ?_) #[true, true, true, true, true, true, false, false, true, true, true, true, true, true, false, false, false, false, false, false, false, false, false, false, false, false, false, false, false, false, false, false, false, false, false, false, false, false, false, false, false, false, false, false, false, false, false, false, false, false, false, false] rfl rfl (take_ofW HT_.out HW_.out (by kernel_rfl)) (fun _ _ _ h => h) (Or.inl ⟨by rfl, ?_⟩) hHeld ?_ ?_
            rotate_left
            ·rintro w' ⟨s0, s1, s2, s3, s4, s5, s6, s7, s8, s9, s10, s11, s12, s13, s14, s15, s16, s17, s18, s19, s20, s21, s22, s23, s24, s25, s26, s27, s28, s29, s30, s31, s32, s33, s34, s35, s36, s37, s38, s39, s40, s41, s42, s43, s44, s45, s46, s47, s48, s49, s50, s51, s52, s53, s54, s55, s56, s57, s58, s59, s60, s61, s62, s63, s64, s65, s66, s67, s68, s69, s70, s71⟩
             go_simp
             with_reducible rfl
            rotate_left
            ·simp only [Act.put, List.setIfInBounds_toArray, List.set_cons_zero, List.set_cons_succ, i64_w, i32_w]
             rfl
            refine pure_ (i := 14) (N := some 59) (v := ?_) (a' := ?_) #[true, true, true, true, true, true, false, false, true, true, true, true, true, true, true, false, false, false, false, false, false, false, false, false, false, false, false, false, false, false, false, false, false, false, false, false, false, false, false, false, false, false, false, false, false, false, false, false, false, false, false, false] rfl rfl (any_of HT_.out (by kernel_rfl)) (fun _ _ _ h => h) (Or.inl ⟨by rfl, ?_⟩) ?_ ?_
            rotate_left
            ·intro w'
             go_simp
             with_reducible rfl
            rotate_left
            ·simp only [Act.put, List.setIfInBounds_toArray, List.set_cons_zero, List.set_cons_succ, i64_w, i32_w]
             rfl
            refine one_ (i := 6) (N := some 51) #[true, true, true, true, true, true, true, false, true, true, true, true, true, true, true, false, false, false, false, false, false, false, false, false, false, false, false, false, false, false, false, false, false, false, false, false, false, false, false, false, false, false, false, false, false, false, false, false, false, false, false, false] rfl rfl (one_of HT_.out (by kernel_rfl)) (by decide) (fun K hK => ?_)
            refine goes_ Try.func10 (by kernel_rfl) rfl #[.slice Ao27 t179.length co27, .int .i64 ((rd_T32 l0 x11_2).f0)] (by rfl) rfl rfl (by (try simp only [List.map_toArray, List.map_cons, List.map_nil]); first | done | rfl | (simp only [List.length_drop, List.length_take]; rfl)) ?_
            with_reducible refine (pend_Find.calls kj15 _ _ t179 ((rd_T32 l0 x11_2).f0) t194 _ ?side1 ?side2 A20.out).mono ?_
            (case side1 => repeat (first | exact (Kd.N_reads' HO_7.out).2.2 | (with_reducible refine Kd.C_alloc ?_ _) | (with_reducible refine Kd.C_drewN ?_ _) | (with_reducible refine Kd.C_drew ?_)))
            (case side2 => exact (Kd.N_reads' HO_7.out).2.1)
            rintro e w28 ⟨rfl, hb⟩
            refine ⟨_, rfl, ?_⟩
            have n0_ := Aside0.mk (Kd.N_below (by (with_reducible repeat (first | apply Kd.N_alloc | apply Kd.N_drewN | apply Kd.N_drew)); exact HO_7.out) hb)
            have n1_ := Aside0.mk (Kd.N_below (by (with_reducible repeat (first | apply Kd.N_alloc | apply Kd.N_drewN | apply Kd.N_drew)); exact HO_8.out) hb)
            have n2_ := Aside0.mk (Kd.N_below (by (with_reducible repeat (first | apply Kd.N_alloc | apply Kd.N_drewN | apply Kd.N_drew)); exact HO_9.out) hb)
            have n3_ := Aside0.mk (below_step (by repeat (first | (with_reducible first | exact HB.out | apply below_alloc | apply pw_below_drewN | apply below_drew1) | exact HB.out)) hb)
            clear HO_7
            clear HO_8
            clear HO_9
            clear HB
            have HO_7 := n0_
            have HO_8 := n1_
            have HO_9 := n2_
            have HB := n3_
            clear n0_ n1_ n2_ n3_
            (try clear hb)
            (try clear hb2)
            (try clear hk)
            (try clear hi)
            obtain ⟨Ao29, co29, eo29⟩ := Kd.N_slice HO_8.out
            (first | subst eo29 | (injection eo29 with f1_ f2_ f3_; have f4_ := f1_.symm; have f5_ := f3_.symm; clear f1_ f2_ f3_; subst f4_; subst f5_))
            refine hK.out _ _ ⟨((HB.out.cell (World.block_lt_of_cell? w _ hw193_0)).trans hw193_0), ((HB.out.cell (World.block_lt_of_cell? w _ hw193_1)).trans hw193_1), ((HB.out.cell (World.block_lt_of_cell? w _ hw193_2)).trans hw193_2), ((HB.out.cell (World.block_lt_of_cell? w _ hw193_3)).trans hw193_3), ((HB.out.cell (World.block_lt_of_cell? w _ hw193_4)).trans hw193_4), ((HB.out.cell (World.block_lt_of_cell? w _ hw193_5)).trans hw193_5), ((HB.out.cell (World.block_lt_of_cell? w _ hw193_6)).trans hw193_6), ((HB.out.cell (World.block_lt_of_cell? w _ hw193_7)).trans hw193_7), ((HB.out.cell (World.block_lt_of_cell? w _ hw193_8)).trans hw193_8), ((HB.out.cell (World.block_lt_of_cell? w _ hw193_9)).trans hw193_9), ((HB.out.cell (World.block_lt_of_cell? w _ hw193_10)).trans hw193_10), ((HB.out.cell (World.block_lt_of_cell? w _ hw193_11)).trans hw193_11), ((HB.out.cell (World.block_lt_of_cell? w _ hw195_0)).trans hw195_0), ((HB.out.cell (World.block_lt_of_cell? w _ hw195_1)).trans hw195_1), ((HB.out.cell (World.block_lt_of_cell? w _ hw195_2)).trans hw195_2), ((HB.out.cell (World.block_lt_of_cell? w _ hw195_3)).trans hw195_3), ((HB.out.cell (World.block_lt_of_cell? w _ hw195_4)).trans hw195_4), ((HB.out.cell (World.block_lt_of_cell? w _ hw195_5)).trans hw195_5), ((HB.out.cell (World.block_lt_of_cell? w _ hw195_6)).trans hw195_6), ((HB.out.cell (World.block_lt_of_cell? w _ hw195_7)).trans hw195_7), ((HB.out.cell (World.block_lt_of_cell? w _ hw195_8)).trans hw195_8), ((HB.out.cell (World.block_lt_of_cell? w _ hw195_9)).trans hw195_9), ((HB.out.cell (World.block_lt_of_cell? w _ hw195_10)).trans hw195_10), ((HB.out.cell (World.block_lt_of_cell? w _ hw195_11)).trans hw195_11), ((HB.out.cell (World.block_lt_of_cell? w _ hw196_0)).trans hw196_0), ((HB.out.cell (World.block_lt_of_cell? w _ hw196_1)).trans hw196_1), ((HB.out.cell (World.block_lt_of_cell? w _ hw196_2)).trans hw196_2), ((HB.out.cell (World.block_lt_of_cell? w _ hw196_3)).trans hw196_3), ((HB.out.cell (World.block_lt_of_cell? w _ hw196_4)).trans hw196_4), ((HB.out.cell (World.block_lt_of_cell? w _ hw196_5)).trans hw196_5), ((HB.out.cell (World.block_lt_of_cell? w _ hw196_6)).trans hw196_6), ((HB.out.cell (World.block_lt_of_cell? w _ hw196_7)).trans hw196_7), ((HB.out.cell (World.block_lt_of_cell? w _ hw196_8)).trans hw196_8), ((HB.out.cell (World.block_lt_of_cell? w _ hw196_9)).trans hw196_9), ((HB.out.cell (World.block_lt_of_cell? w _ hw196_10)).trans hw196_10), ((HB.out.cell (World.block_lt_of_cell? w _ hw196_11)).trans hw196_11), ((HB.out.cell (World.block_lt_of_cell? w _ hw198_0)).trans hw198_0), ((HB.out.cell (World.block_lt_of_cell? w _ hw198_1)).trans hw198_1), ((HB.out.cell (World.block_lt_of_cell? w _ hw198_2)).trans hw198_2), ((HB.out.cell (World.block_lt_of_cell? w _ hw198_3)).trans hw198_3), ((HB.out.cell (World.block_lt_of_cell? w _ hw198_4)).trans hw198_4), ((HB.out.cell (World.block_lt_of_cell? w _ hw198_5)).trans hw198_5), ((HB.out.cell (World.block_lt_of_cell? w _ hw198_6)).trans hw198_6), ((HB.out.cell (World.block_lt_of_cell? w _ hw198_7)).trans hw198_7), ((HB.out.cell (World.block_lt_of_cell? w _ hw198_8)).trans hw198_8), ((HB.out.cell (World.block_lt_of_cell? w _ hw198_9)).trans hw198_9), ((HB.out.cell (World.block_lt_of_cell? w _ hw198_10)).trans hw198_10), ((HB.out.cell (World.block_lt_of_cell? w _ hw198_11)).trans hw198_11), ((HB.out.cell (World.block_lt_of_cell? w _ hw199_0)).trans hw199_0), ((HB.out.cell (World.block_lt_of_cell? w _ hw199_1)).trans hw199_1), ((HB.out.cell (World.block_lt_of_cell? w _ hw199_2)).trans hw199_2), ((HB.out.cell (World.block_lt_of_cell? w _ hw199_3)).trans hw199_3), ((HB.out.cell (World.block_lt_of_cell? w _ hw199_4)).trans hw199_4), ((HB.out.cell (World.block_lt_of_cell? w _ hw199_5)).trans hw199_5), ((HB.out.cell (World.block_lt_of_cell? w _ hw199_6)).trans hw199_6), ((HB.out.cell (World.block_lt_of_cell? w _ hw199_7)).trans hw199_7), ((HB.out.cell (World.block_lt_of_cell? w _ hw199_8)).trans hw199_8), ((HB.out.cell (World.block_lt_of_cell? w _ hw199_9)).trans hw199_9), ((HB.out.cell (World.block_lt_of_cell? w _ hw199_10)).trans hw199_10), ((HB.out.cell (World.block_lt_of_cell? w _ hw199_11)).trans hw199_11), ((HB.out.cell (World.block_lt_of_cell? w _ hw201_0)).trans hw201_0), ((HB.out.cell (World.block_lt_of_cell? w _ hw201_1)).trans hw201_1), ((HB.out.cell (World.block_lt_of_cell? w _ hw201_2)).trans hw201_2), ((HB.out.cell (World.block_lt_of_cell? w _ hw201_3)).trans hw201_3), ((HB.out.cell (World.block_lt_of_cell? w _ hw201_4)).trans hw201_4), ((HB.out.cell (World.block_lt_of_cell? w _ hw201_5)).trans hw201_5), ((HB.out.cell (World.block_lt_of_cell? w _ hw201_6)).trans hw201_6), ((HB.out.cell (World.block_lt_of_cell? w _ hw201_7)).trans hw201_7), ((HB.out.cell (World.block_lt_of_cell? w _ hw201_8)).trans hw201_8), ((HB.out.cell (World.block_lt_of_cell? w _ hw201_9)).trans hw201_9), ((HB.out.cell (World.block_lt_of_cell? w _ hw201_10)).trans hw201_10), ((HB.out.cell (World.block_lt_of_cell? w _ hw201_11)).trans hw201_11)⟩ (fun hHeld => ?_)
            clear hK K
            refine norm_ (a' := ?_) ?_ ?_
            rotate_left
            ·show Act.put _ (some 51) _ = _
             simp only [Act.put, List.setIfInBounds_toArray, List.set_cons_zero, List.set_cons_succ, i64_w, i32_w]
             rfl
            refine pure_ (i := 7) (N := some 52) (v := ?_) (a' := ?_) #[true, true, true, true, true, true, true, true, true, true, true, true, true, true, true, false, false, false, false, false, false, false, false, false, false, false, false, false, false, false, false, false, false, false, false, false, false, false, false, false, false, false, false, false, false, false, false, false, false, false, false, false] rfl rfl (any_of HT_.out (by kernel_rfl)) (fun _ _ _ h => h) (Or.inl ⟨by rfl, ?_⟩) ?_ ?_
            rotate_left
            ·intro w'
             go_simp
             with_reducible rfl
            rotate_left
            ·simp only [Act.put, List.setIfInBounds_toArray, List.set_cons_zero, List.set_cons_succ, i64_w, i32_w]
             rfl
            refine pure_ (i := 15) (N := some 60) (v := ?_) (a' := ?_) #[true, true, true, true, true, true, true, true, true, true, true, true, true, true, true, true, false, false, false, false, false, false, false, false, false, false, false, false, false, false, false, false, false, false, false, false, false, false, false, false, false, false, false, false, false, false, false, false, false, false, false, false] rfl rfl (any_of HT_.out (by kernel_rfl)) (fun _ _ _ h => h) (Or.inl ⟨by rfl, ?_⟩) ?_ ?_
            rotate_left
            ·intro w'
             go_simp
             with_reducible rfl
            rotate_left
            ·simp only [Act.put, List.setIfInBounds_toArray, List.set_cons_zero, List.set_cons_succ, i64_w, i32_w]
             rfl
            refine pure_ (i := 16) (N := some 61) (v := ?_) (a' := ?_) #[true, true, true, true, true, true, true, true, true, true, true, true, true, true, true, true, true, false, false, false, false, false, false, false, false, false, false, false, false, false, false, false, false, false, false, false, false, false, false, false, false, false, false, false, false, false, false, false, false, false, false, false] rfl rfl (any_of HT_.out (by kernel_rfl)) (fun _ _ _ h => h) (Or.inl ⟨by rfl, ?_⟩) ?_ ?_
            rotate_left
            ·intro w'
             go_simp
             with_reducible rfl
            rotate_left
            ·simp only [Act.put, List.setIfInBounds_toArray, List.set_cons_zero, List.set_cons_succ, i64_w, i32_w]
             rfl
            refine pure_ (i := 17) (N := some 62) (v := ?_) (a' := ?_) #[true, true, true, true, true, true, true, true, true, true, true, true, true, true, true, true, true, true, false, false, false, false, false, false, false, false, false, false, false, false, false, false, false, false, false, false, false, false, false, false, false, false, false, false, false, false, false, false, false, false, false, false] rfl rfl (any_of HT_.out (by kernel_rfl)) (fun _ _ _ h => h) (Or.inl ⟨by rfl, ?_⟩) ?_ ?_
            rotate_left
            ·intro w'
             go_simp
             with_reducible rfl
            rotate_left
            ·simp only [Act.put, List.setIfInBounds_toArray, List.set_cons_zero, List.set_cons_succ, i64_w, i32_w]
             rfl
            refine pure_ (i := 18) (N := some 63) (v := ?_) (a' := ?_) #[true, true, true, true, true, true, true, true, true, true, true, true, true, true, true, true, true, true, true, false, false, false, false, false, false, false, false, false, false, false, false, false, false, false, false, false, false, false, false, false, false, false, false, false, false, false, false, false, false, false, false, false] rfl rfl (any_of HT_.out (by kernel_rfl)) (fun _ _ _ h => h) (Or.inl ⟨by rfl, ?_⟩) ?_ ?_
            rotate_left
            ·intro w'
             go_simp
             with_reducible rfl
            rotate_left
            ·simp only [Act.put, List.setIfInBounds_toArray, List.set_cons_zero, List.set_cons_succ, i64_w, i32_w]
             rfl
            refine pure_ (i := 19) (N := some 64) (v := ?_) (a' := ?_) #[true, true, true, true, true, true, true, true, true, true, true, true, true, true, true, true, true, true, true, true, false, false, false, false, false, false, false, false, false, false, false, false, false, false, false, false, false, false, false, false, false, false, false, false, false, false, false, false, false, false, false, false] rfl rfl (any_of HT_.out (by kernel_rfl)) (fun _ _ _ h => h) (Or.inl ⟨by rfl, ?_⟩) ?_ ?_
            rotate_left
            ·intro w'
             go_simp
             with_reducible rfl
            rotate_left
            ·simp only [Act.put, List.setIfInBounds_toArray, List.set_cons_zero, List.set_cons_succ, i64_w, i32_w]
             rfl
            refine pure_ (i := 20) (N := some 65) (v := ?_) (a' := ?_) #[true, true, true, true, true, true, true, true, true, true, true, true, true, true, true, true, true, true, true, true, true, false, false, false, false, false, false, false, false, false, false, false, false, false, false, false, false, false, false, false, false, false, false, false, false, false, false, false, false, false, false, false] rfl rfl (any_of HT_.out (by kernel_rfl)) (fun _ _ _ h => h) (Or.inl ⟨by rfl, ?_⟩) ?_ ?_
            rotate_left
            ·intro w'
             go_simp
             with_reducible rfl
            rotate_left
            ·simp only [Act.put, List.setIfInBounds_toArray, List.set_cons_zero, List.set_cons_succ, i64_w, i32_w]
             rfl
            refine pure_ (i := 21) (N := some 66) (v := ?_) (a' := ?_) #[true, true, true, true, true, true, true, true, true, true, true, true, true, true, true, true, true, true, true, true, true, true, false, false, false, false, false, false, false, false, false, false, false, false, false, false, false, false, false, false, false, false, false, false, false, false, false, false, false, false, false, false] rfl rfl (any_of HT_.out (by kernel_rfl)) (fun _ _ _ h => h) (Or.inl ⟨by rfl, ?_⟩) ?_ ?_
            rotate_left
            ·intro w'
             go_simp
             with_reducible rfl
            rotate_left
            ·simp only [Act.put, List.setIfInBounds_toArray, List.set_cons_zero, List.set_cons_succ, i64_w, i32_w]
             rfl
            refine pure_ (i := 25) (N := some 70) (v := ?_) (a' := ?_) #[true, true, true, true, true, true, true, true, true, true, true, true, true, true, true, true, true, true, true, true, true, true, false, false, false, true, false, false, false, false, false, false, false, false, false, false, false, false, false, false, false, false, false, false, false, false, false, false, false, false, false, false] rfl rfl (any_of HT_.out (by kernel_rfl)) (fun _ _ _ h => h) (Or.inl ⟨by rfl, ?_⟩) ?_ ?_
            rotate_left
            ·intro w'
             go_simp
             with_reducible rfl
            rotate_left
            ·simp only [Act.put, List.setIfInBounds_toArray, List.set_cons_zero, List.set_cons_succ, i64_w, i32_w]
             rfl
            refine pure_ (i := 26) (N := some 71) (v := ?_) (a' := ?_) #[true, true, true, true, true, true, true, true, true, true, true, true, true, true, true, true, true, true, true, true, true, true, false, false, false, true, true, false, false, false, false, false, false, false, false, false, false, false, false, false, false, false, false, false, false, false, false, false, false, false, false, false] rfl rfl (any_of HT_.out (by kernel_rfl)) (fun _ _ _ h => h) (Or.inl ⟨by rfl, ?_⟩) ?_ ?_
            rotate_left
            ·intro w'
             go_simp
             with_reducible rfl
            rotate_left
            ·simp only [Act.put, List.setIfInBounds_toArray, List.set_cons_zero, List.set_cons_succ, i64_w, i32_w]
             rfl
            refine pure_ (i := 27) (N := some 72) (v := ?_) (a' := ?_) #[true, true, true, true, true, true, true, true, true, true, true, true, true, true, true, true, true, true, true, true, true, true, false, false, false, true, true, true, false, false, false, false, false, false, false, false, false, false, false, false, false, false, false, false, false, false, false, false, false, false, false, false] rfl rfl (any_of HT_.out (by kernel_rfl)) (fun _ _ _ h => h) (Or.inl ⟨by rfl, ?_⟩) ?_ ?_
            rotate_left
            ·intro w'
             go_simp
             with_reducible rfl
            rotate_left
            ·simp only [Act.put, List.setIfInBounds_toArray, List.set_cons_zero, List.set_cons_succ, i64_w, i32_w]
             rfl
            refine pure_ (i := 28) (N := some 73) (v := ?_) (a' := ?_) #[true, true, true, true, true, true, true, true, true, true, true, true, true, true, true, true, true, true, true, true, true, true, false, false, false, true, true, true, true, false, false, false, false, false, false, false, false, false, false, false, false, false, false, false, false, false, false, false, false, false, false, false] rfl rfl (any_of HT_.out (by kernel_rfl)) (fun _ _ _ h => h) (Or.inl ⟨by rfl, ?_⟩) ?_ ?_
            rotate_left
            ·intro w'
             go_simp
             with_reducible rfl
            rotate_left
            ·simp only [Act.put, List.setIfInBounds_toArray, List.set_cons_zero, List.set_cons_succ, i64_w, i32_w]
             rfl
            refine pure_ (i := 30) (N := some 75) (v := ?_) (a' := ?_) #[true, true, true, true, true, true, true, true, true, true, true, true, true, true, true, true, true, true, true, true, true, true, false, false, false, true, true, true, true, false, true, false, false, false, false, false, false, false, false, false, false, false, false, false, false, false, false, false, false, false, false, false] rfl rfl (any_of HT_.out (by kernel_rfl)) (fun _ _ _ h => h) (Or.inl ⟨by rfl, ?_⟩) ?_ ?_
            rotate_left
            ·intro w'
             go_simp
             with_reducible rfl
            rotate_left
            ·simp only [Act.put, List.setIfInBounds_toArray, List.set_cons_zero, List.set_cons_succ, i64_w, i32_w]
             rfl
            refine take_ (i := 22) (N := some 67) (v := ?_) (a' := ?_) #[true, true, true, true, true, true, true, true, true, true, true, true, true, true, true, true, true, true, true, true, true, true, true, false, false, true, true, true, true, false, true, false, false, false, false, false, false, false, false, false, false, false, false, false, false, false, false, false, false, false, false, false] rfl rfl (take_ofW HT_.out HW_.out (by kernel_rfl)) (fun _ _ _ h => h) (Or.inl ⟨by rfl, ?_⟩) hHeld ?_ ?_
            rotate_left
            ·rintro w' ⟨s0, s1, s2, s3, s4, s5, s6, s7, s8, s9, s10, s11, s12, s13, s14, s15, s16, s17, s18, s19, s20, s21, s22, s23, s24, s25, s26, s27, s28, s29, s30, s31, s32, s33, s34, s35, s36, s37, s38, s39, s40, s41, s42, s43, s44, s45, s46, s47, s48, s49, s50, s51, s52, s53, s54, s55, s56, s57, s58, s59, s60, s61, s62, s63, s64, s65, s66, s67, s68, s69, s70, s71⟩
             go_simp
             with_reducible rfl
            rotate_left
            ·simp only [Act.put, List.setIfInBounds_toArray, List.set_cons_zero, List.set_cons_succ, i64_w, i32_w]
             rfl
            refine take_ (i := 29) (N := some 74) (v := ?_) (a' := ?_) #[true, true, true, true, true, true, true, true, true, true, true, true, true, true, true, true, true, true, true, true, true, true, true, false, false, true, true, true, true, true, true, false, false, false, false, false, false, false, false, false, false, false, false, false, false, false, false, false, false, false, false, false] rfl rfl (take_ofW HT_.out HW_.out (by kernel_rfl)) (fun _ _ _ h => h) (Or.inl ⟨by rfl, ?_⟩) hHeld ?_ ?_
            rotate_left
            ·rintro w' ⟨s0, s1, s2, s3, s4, s5, s6, s7, s8, s9, s10, s11, s12, s13, s14, s15, s16, s17, s18, s19, s20, s21, s22, s23, s24, s25, s26, s27, s28, s29, s30, s31, s32, s33, s34, s35, s36, s37, s38, s39, s40, s41, s42, s43, s44, s45, s46, s47, s48, s49, s50, s51, s52, s53, s54, s55, s56, s57, s58, s59, s60, s61, s62, s63, s64, s65, s66, s67, s68, s69, s70, s71⟩
             go_simp
             with_reducible rfl
            rotate_left
            ·simp only [Act.put, List.setIfInBounds_toArray, List.set_cons_zero, List.set_cons_succ, i64_w, i32_w]
             rfl
            refine pure_ (i := 31) (N := some 76) (v := ?_) (a' := ?_) #[true, true, true, true, true, true, true, true, true, true, true, true, true, true, true, true, true, true, true, true, true, true, true, false, false, true, true, true, true, true, true, true, false, false, false, false, false, false, false, false, false, false, false, false, false, false, false, false, false, false, false, false] rfl rfl (any_of HT_.out (by kernel_rfl)) (fun _ _ _ h => h) (Or.inl ⟨by rfl, ?_⟩) ?_ ?_
            rotate_left
            ·intro w'
             go_simp
             with_reducible rfl
            rotate_left
            ·simp only [Act.put, List.setIfInBounds_toArray, List.set_cons_zero, List.set_cons_succ, i64_w, i32_w]
             rfl
            refine one_ (i := 23) (N := some 68) #[true, true, true, true, true, true, true, true, true, true, true, true, true, true, true, true, true, true, true, true, true, true, true, true, false, true, true, true, true, true, true, true, false, false, false, false, false, false, false, false, false, false, false, false, false, false, false, false, false, false, false, false] rfl rfl (one_of HT_.out (by kernel_rfl)) (by decide) (fun K hK => ?_)
            refine goes_ Try.func10 (by kernel_rfl) rfl #[.slice Ao29 t182.length co29, .int .i64 ((rd_T32 l0 x11_2).f0)] (by rfl) rfl rfl (by (try simp only [List.map_toArray, List.map_cons, List.map_nil]); first | done | rfl | (simp only [List.length_drop, List.length_take]; rfl)) ?_
            with_reducible refine (pend_Find.calls kj15 _ _ t182 ((rd_T32 l0 x11_2).f0) t197 _ ?side1 ?side2 A22.out).mono ?_
            (case side1 => repeat (first | exact (Kd.N_reads' HO_8.out).2.2 | (with_reducible refine Kd.C_alloc ?_ _) | (with_reducible refine Kd.C_drewN ?_ _) | (with_reducible refine Kd.C_drew ?_)))
            (case side2 => exact (Kd.N_reads' HO_8.out).2.1)
            rintro e w30 ⟨rfl, hb⟩
            refine ⟨_, rfl, ?_⟩
            have n0_ := Aside0.mk (Kd.N_below (by (with_reducible repeat (first | apply Kd.N_alloc | apply Kd.N_drewN | apply Kd.N_drew)); exact HO_7.out) hb)
            have n1_ := Aside0.mk (Kd.N_below (by (with_reducible repeat (first | apply Kd.N_alloc | apply Kd.N_drewN | apply Kd.N_drew)); exact HO_8.out) hb)
            have n2_ := Aside0.mk (Kd.N_below (by (with_reducible repeat (first | apply Kd.N_alloc | apply Kd.N_drewN | apply Kd.N_drew)); exact HO_9.out) hb)
            have n3_ := Aside0.mk (below_step (by repeat (first | (with_reducible first | exact HB.out | apply below_alloc | apply pw_below_drewN | apply below_drew1) | exact HB.out)) hb)
            clear HO_7
            clear HO_8
            clear HO_9
            clear HB
            have HO_7 := n0_
            have HO_8 := n1_
            have HO_9 := n2_
            have HB := n3_
            clear n0_ n1_ n2_ n3_
            (try clear hb)
            (try clear hb2)
            (try clear hk)
            (try clear hi)
            obtain ⟨Ao31, co31, eo31⟩ := Kd.N_slice HO_9.out
            (first | subst eo31 | (injection eo31 with f1_ f2_ f3_; have f4_ := f1_.symm; have f5_ := f3_.symm; clear f1_ f2_ f3_; subst f4_; subst f5_))
            refine hK.out _ _ ⟨((HB.out.cell (World.block_lt_of_cell? w _ hw193_0)).trans hw193_0), ((HB.out.cell (World.block_lt_of_cell? w _ hw193_1)).trans hw193_1), ((HB.out.cell (World.block_lt_of_cell? w _ hw193_2)).trans hw193_2), ((HB.out.cell (World.block_lt_of_cell? w _ hw193_3)).trans hw193_3), ((HB.out.cell (World.block_lt_of_cell? w _ hw193_4)).trans hw193_4), ((HB.out.cell (World.block_lt_of_cell? w _ hw193_5)).trans hw193_5), ((HB.out.cell (World.block_lt_of_cell? w _ hw193_6)).trans hw193_6), ((HB.out.cell (World.block_lt_of_cell? w _ hw193_7)).trans hw193_7), ((HB.out.cell (World.block_lt_of_cell? w _ hw193_8)).trans hw193_8), ((HB.out.cell (World.block_lt_of_cell? w _ hw193_9)).trans hw193_9), ((HB.out.cell (World.block_lt_of_cell? w _ hw193_10)).trans hw193_10), ((HB.out.cell (World.block_lt_of_cell? w _ hw193_11)).trans hw193_11), ((HB.out.cell (World.block_lt_of_cell? w _ hw195_0)).trans hw195_0), ((HB.out.cell (World.block_lt_of_cell? w _ hw195_1)).trans hw195_1), ((HB.out.cell (World.block_lt_of_cell? w _ hw195_2)).trans hw195_2), ((HB.out.cell (World.block_lt_of_cell? w _ hw195_3)).trans hw195_3), ((HB.out.cell (World.block_lt_of_cell? w _ hw195_4)).trans hw195_4), ((HB.out.cell (World.block_lt_of_cell? w _ hw195_5)).trans hw195_5), ((HB.out.cell (World.block_lt_of_cell? w _ hw195_6)).trans hw195_6), ((HB.out.cell (World.block_lt_of_cell? w _ hw195_7)).trans hw195_7), ((HB.out.cell (World.block_lt_of_cell? w _ hw195_8)).trans hw195_8), ((HB.out.cell (World.block_lt_of_cell? w _ hw195_9)).trans hw195_9), ((HB.out.cell (World.block_lt_of_cell? w _ hw195_10)).trans hw195_10), ((HB.out.cell (World.block_lt_of_cell? w _ hw195_11)).trans hw195_11), ((HB.out.cell (World.block_lt_of_cell? w _ hw196_0)).trans hw196_0), ((HB.out.cell (World.block_lt_of_cell? w _ hw196_1)).trans hw196_1), ((HB.out.cell (World.block_lt_of_cell? w _ hw196_2)).trans hw196_2), ((HB.out.cell (World.block_lt_of_cell? w _ hw196_3)).trans hw196_3), ((HB.out.cell (World.block_lt_of_cell? w _ hw196_4)).trans hw196_4), ((HB.out.cell (World.block_lt_of_cell? w _ hw196_5)).trans hw196_5), ((HB.out.cell (World.block_lt_of_cell? w _ hw196_6)).trans hw196_6), ((HB.out.cell (World.block_lt_of_cell? w _ hw196_7)).trans hw196_7), ((HB.out.cell (World.block_lt_of_cell? w _ hw196_8)).trans hw196_8), ((HB.out.cell (World.block_lt_of_cell? w _ hw196_9)).trans hw196_9), ((HB.out.cell (World.block_lt_of_cell? w _ hw196_10)).trans hw196_10), ((HB.out.cell (World.block_lt_of_cell? w _ hw196_11)).trans hw196_11), ((HB.out.cell (World.block_lt_of_cell? w _ hw198_0)).trans hw198_0), ((HB.out.cell (World.block_lt_of_cell? w _ hw198_1)).trans hw198_1), ((HB.out.cell (World.block_lt_of_cell? w _ hw198_2)).trans hw198_2), ((HB.out.cell (World.block_lt_of_cell? w _ hw198_3)).trans hw198_3), ((HB.out.cell (World.block_lt_of_cell? w _ hw198_4)).trans hw198_4), ((HB.out.cell (World.block_lt_of_cell? w _ hw198_5)).trans hw198_5), ((HB.out.cell (World.block_lt_of_cell? w _ hw198_6)).trans hw198_6), ((HB.out.cell (World.block_lt_of_cell? w _ hw198_7)).trans hw198_7), ((HB.out.cell (World.block_lt_of_cell? w _ hw198_8)).trans hw198_8), ((HB.out.cell (World.block_lt_of_cell? w _ hw198_9)).trans hw198_9), ((HB.out.cell (World.block_lt_of_cell? w _ hw198_10)).trans hw198_10), ((HB.out.cell (World.block_lt_of_cell? w _ hw198_11)).trans hw198_11), ((HB.out.cell (World.block_lt_of_cell? w _ hw199_0)).trans hw199_0), ((HB.out.cell (World.block_lt_of_cell? w _ hw199_1)).trans hw199_1), ((HB.out.cell (World.block_lt_of_cell? w _ hw199_2)).trans hw199_2), ((HB.out.cell (World.block_lt_of_cell? w _ hw199_3)).trans hw199_3), ((HB.out.cell (World.block_lt_of_cell? w _ hw199_4)).trans hw199_4), ((HB.out.cell (World.block_lt_of_cell? w _ hw199_5)).trans hw199_5), ((HB.out.cell (World.block_lt_of_cell? w _ hw199_6)).trans hw199_6), ((HB.out.cell (World.block_lt_of_cell? w _ hw199_7)).trans hw199_7), ((HB.out.cell (World.block_lt_of_cell? w _ hw199_8)).trans hw199_8), ((HB.out.cell (World.block_lt_of_cell? w _ hw199_9)).trans hw199_9), ((HB.out.cell (World.block_lt_of_cell? w _ hw199_10)).trans hw199_10), ((HB.out.cell (World.block_lt_of_cell? w _ hw199_11)).trans hw199_11), ((HB.out.cell (World.block_lt_of_cell? w _ hw201_0)).trans hw201_0), ((HB.out.cell (World.block_lt_of_cell? w _ hw201_1)).trans hw201_1), ((HB.out.cell (World.block_lt_of_cell? w _ hw201_2)).trans hw201_2), ((HB.out.cell (World.block_lt_of_cell? w _ hw201_3)).trans hw201_3), ((HB.out.cell (World.block_lt_of_cell? w _ hw201_4)).trans hw201_4), ((HB.out.cell (World.block_lt_of_cell? w _ hw201_5)).trans hw201_5), ((HB.out.cell (World.block_lt_of_cell? w _ hw201_6)).trans hw201_6), ((HB.out.cell (World.block_lt_of_cell? w _ hw201_7)).trans hw201_7), ((HB.out.cell (World.block_lt_of_cell? w _ hw201_8)).trans hw201_8), ((HB.out.cell (World.block_lt_of_cell? w _ hw201_9)).trans hw201_9), ((HB.out.cell (World.block_lt_of_cell? w _ hw201_10)).trans hw201_10), ((HB.out.cell (World.block_lt_of_cell? w _ hw201_11)).trans hw201_11)⟩ (fun hHeld => ?_)
            clear hK K
            refine norm_ (a' := ?_) ?_ ?_
            rotate_left
            ·show Act.put _ (some 68) _ = _
             simp only [Act.put, List.setIfInBounds_toArray, List.set_cons_zero, List.set_cons_succ, i64_w, i32_w]
             rfl
            refine pure_ (i := 24) (N := some 69) (v := ?_) (a' := ?_) #[true, true, true, true, true, true, true, true, true, true, true, true, true, true, true, true, true, true, true, true, true, true, true, true, true, true, true, true, true, true, true, true, false, false, false, false, false, false, false, false, false, false, false, false, false, false, false, false, false, false, false, false] rfl rfl (any_of HT_.out (by kernel_rfl)) (fun _ _ _ h => h) (Or.inl ⟨by rfl, ?_⟩) ?_ ?_
            rotate_left
            ·intro w'
             go_simp
             with_reducible rfl
            rotate_left
            ·simp only [Act.put, List.setIfInBounds_toArray, List.set_cons_zero, List.set_cons_succ, i64_w, i32_w]
             rfl
            refine pure_ (i := 32) (N := some 77) (v := ?_) (a' := ?_) #[true, true, true, true, true, true, true, true, true, true, true, true, true, true, true, true, true, true, true, true, true, true, true, true, true, true, true, true, true, true, true, true, true, false, false, false, false, false, false, false, false, false, false, false, false, false, false, false, false, false, false, false] rfl rfl (any_of HT_.out (by kernel_rfl)) (fun _ _ _ h => h) (Or.inl ⟨by rfl, ?_⟩) ?_ ?_
            rotate_left
            ·intro w'
             go_simp
             with_reducible rfl
            rotate_left
            ·simp only [Act.put, List.setIfInBounds_toArray, List.set_cons_zero, List.set_cons_succ, i64_w, i32_w]
             rfl
            refine pure_ (i := 33) (N := some 78) (v := ?_) (a' := ?_) #[true, true, true, true, true, true, true, true, true, true, true, true, true, true, true, true, true, true, true, true, true, true, true, true, true, true, true, true, true, true, true, true, true, true, false, false, false, false, false, false, false, false, false, false, false, false, false, false, false, false, false, false] rfl rfl (any_of HT_.out (by kernel_rfl)) (fun _ _ _ h => h) (Or.inl ⟨by rfl, ?_⟩) ?_ ?_
            rotate_left
            ·intro w'
             go_simp
             with_reducible rfl
            rotate_left
            ·simp only [Act.put, List.setIfInBounds_toArray, List.set_cons_zero, List.set_cons_succ, i64_w, i32_w]
             rfl
            refine pure_ (i := 34) (N := some 79) (v := ?_) (a' := ?_) #[true, true, true, true, true, true, true, true, true, true, true, true, true, true, true, true, true, true, true, true, true, true, true, true, true, true, true, true, true, true, true, true, true, true, true, false, false, false, false, false, false, false, false, false, false, false, false, false, false, false, false, false] rfl rfl (any_of HT_.out (by kernel_rfl)) (fun _ _ _ h => h) (Or.inl ⟨by rfl, ?_⟩) ?_ ?_
            rotate_left
            ·intro w'
             go_simp
             with_reducible rfl
            rotate_left
            ·simp only [Act.put, List.setIfInBounds_toArray, List.set_cons_zero, List.set_cons_succ, i64_w, i32_w]
             rfl
            refine pure_ (i := 35) (N := some 80) (v := ?_) (a' := ?_) #[true, true, true, true, true, true, true, true, true, true, true, true, true, true, true, true, true, true, true, true, true, true, true, true, true, true, true, true, true, true, true, true, true, true, true, true, false, false, false, false, false, false, false, false, false, false, false, false, false, false, false, false] rfl rfl (any_of HT_.out (by kernel_rfl)) (fun _ _ _ h => h) (Or.inl ⟨by rfl, ?_⟩) ?_ ?_
            rotate_left
            ·intro w'
             go_simp
             with_reducible rfl
            rotate_left
            ·simp only [Act.put, List.setIfInBounds_toArray, List.set_cons_zero, List.set_cons_succ, i64_w, i32_w]
             rfl
            refine pure_ (i := 36) (N := some 81) (v := ?_) (a' := ?_) #[true, true, true, true, true, true, true, true, true, true, true, true, true, true, true, true, true, true, true, true, true, true, true, true, true, true, true, true, true, true, true, true, true, true, true, true, true, false, false, false, false, false, false, false, false, false, false, false, false, false, false, false] rfl rfl (any_of HT_.out (by kernel_rfl)) (fun _ _ _ h => h) (Or.inl ⟨by rfl, ?_⟩) ?_ ?_
            rotate_left
            ·intro w'
             go_simp
             with_reducible rfl
            rotate_left
            ·simp only [Act.put, List.setIfInBounds_toArray, List.set_cons_zero, List.set_cons_succ, i64_w, i32_w]
             rfl
            refine pure_ (i := 37) (N := some 82) (v := ?_) (a' := ?_) #[true, true, true, true, true, true, true, true, true, true, true, true, true, true, true, true, true, true, true, true, true, true, true, true, true, true, true, true, true, true, true, true, true, true, true, true, true, true, false, false, false, false, false, false, false, false, false, false, false, false, false, false] rfl rfl (any_of HT_.out (by kernel_rfl)) (fun _ _ _ h => h) (Or.inl ⟨by rfl, ?_⟩) ?_ ?_
            rotate_left
            ·intro w'
             go_simp
             with_reducible rfl
            rotate_left
            ·simp only [Act.put, List.setIfInBounds_toArray, List.set_cons_zero, List.set_cons_succ, i64_w, i32_w]
             rfl
            refine pure_ (i := 38) (N := some 83) (v := ?_) (a' := ?_) #[true, true, true, true, true, true, true, true, true, true, true, true, true, true, true, true, true, true, true, true, true, true, true, true, true, true, true, true, true, true, true, true, true, true, true, true, true, true, true, false, false, false, false, false, false, false, false, false, false, false, false, false] rfl rfl (any_of HT_.out (by kernel_rfl)) (fun _ _ _ h => h) (Or.inl ⟨by rfl, ?_⟩) ?_ ?_
            rotate_left
            ·intro w'
             go_simp
             with_reducible rfl
            rotate_left
            ·simp only [Act.put, List.setIfInBounds_toArray, List.set_cons_zero, List.set_cons_succ, i64_w, i32_w]
             rfl
            refine pure_ (i := 39) (N := some 84) (v := ?_) (a' := ?_) #[true, true, true, true, true, true, true, true, true, true, true, true, true, true, true, true, true, true, true, true, true, true, true, true, true, true, true, true, true, true, true, true, true, true, true, true, true, true, true, true, false, false, false, false, false, false, false, false, false, false, false, false] rfl rfl (any_of HT_.out (by kernel_rfl)) (fun _ _ _ h => h) (Or.inl ⟨by rfl, ?_⟩) ?_ ?_
            rotate_left
            ·intro w'
             go_simp
             with_reducible rfl
            rotate_left
            ·simp only [Act.put, List.setIfInBounds_toArray, List.set_cons_zero, List.set_cons_succ, i64_w, i32_w]
             rfl
            refine pure_ (i := 43) (N := some 88) (v := ?_) (a' := ?_) #[true, true, true, true, true, true, true, true, true, true, true, true, true, true, true, true, true, true, true, true, true, true, true, true, true, true, true, true, true, true, true, true, true, true, true, true, true, true, true, true, false, false, false, true, false, false, false, false, false, false, false, false] rfl rfl (any_of HT_.out (by kernel_rfl)) (fun _ _ _ h => h) (Or.inl ⟨by rfl, ?_⟩) ?_ ?_
            rotate_left
            ·intro w'
             go_simp
             with_reducible rfl
            rotate_left
            ·simp only [Act.put, List.setIfInBounds_toArray, List.set_cons_zero, List.set_cons_succ, i64_w, i32_w]
             rfl
            refine pure_ (i := 44) (N := some 89) (v := ?_) (a' := ?_) #[true, true, true, true, true, true, true, true, true, true, true, true, true, true, true, true, true, true, true, true, true, true, true, true, true, true, true, true, true, true, true, true, true, true, true, true, true, true, true, true, false, false, false, true, true, false, false, false, false, false, false, false] rfl rfl (any_of HT_.out (by kernel_rfl)) (fun _ _ _ h => h) (Or.inl ⟨by rfl, ?_⟩) ?_ ?_
            rotate_left
            ·intro w'
             go_simp
             with_reducible rfl
            rotate_left
            ·simp only [Act.put, List.setIfInBounds_toArray, List.set_cons_zero, List.set_cons_succ, i64_w, i32_w]
             rfl
            refine pure_ (i := 45) (N := some 90) (v := ?_) (a' := ?_) #[true, true, true, true, true, true, true, true, true, true, true, true, true, true, true, true, true, true, true, true, true, true, true, true, true, true, true, true, true, true, true, true, true, true, true, true, true, true, true, true, false, false, false, true, true, true, false, false, false, false, false, false] rfl rfl (any_of HT_.out (by kernel_rfl)) (fun _ _ _ h => h) (Or.inl ⟨by rfl, ?_⟩) ?_ ?_
            rotate_left
            ·intro w'
             go_simp
             with_reducible rfl
            rotate_left
            ·simp only [Act.put, List.setIfInBounds_toArray, List.set_cons_zero, List.set_cons_succ, i64_w, i32_w]
             rfl
            refine pure_ (i := 46) (N := some 91) (v := ?_) (a' := ?_) #[true, true, true, true, true, true, true, true, true, true, true, true, true, true, true, true, true, true, true, true, true, true, true, true, true, true, true, true, true, true, true, true, true, true, true, true, true, true, true, true, false, false, false, true, true, true, true, false, false, false, false, false] rfl rfl (any_of HT_.out (by kernel_rfl)) (fun _ _ _ h => h) (Or.inl ⟨by rfl, ?_⟩) ?_ ?_
            rotate_left
            ·intro w'
             go_simp
             with_reducible rfl
            rotate_left
            ·simp only [Act.put, List.setIfInBounds_toArray, List.set_cons_zero, List.set_cons_succ, i64_w, i32_w]
             rfl
            refine pure_ (i := 48) (N := some 93) (v := ?_) (a' := ?_) #[true, true, true, true, true, true, true, true, true, true, true, true, true, true, true, true, true, true, true, true, true, true, true, true, true, true, true, true, true, true, true, true, true, true, true, true, true, true, true, true, false, false, false, true, true, true, true, false, true, false, false, false] rfl rfl (any_of HT_.out (by kernel_rfl)) (fun _ _ _ h => h) (Or.inl ⟨by rfl, ?_⟩) ?_ ?_
            rotate_left
            ·intro w'
             go_simp
             with_reducible rfl
            rotate_left
            ·simp only [Act.put, List.setIfInBounds_toArray, List.set_cons_zero, List.set_cons_succ, i64_w, i32_w]
             rfl
            refine take_ (i := 40) (N := some 85) (v := ?_) (a' := ?_) #[true, true, true, true, true, true, true, true, true, true, true, true, true, true, true, true, true, true, true, true, true, true, true, true, true, true, true, true, true, true, true, true, true, true, true, true, true, true, true, true, true, false, false, true, true, true, true, false, true, false, false, false] rfl rfl (take_ofW HT_.out HW_.out (by kernel_rfl)) (fun _ _ _ h => h) (Or.inl ⟨by rfl, ?_⟩) hHeld ?_ ?_
            rotate_left
            ·rintro w' ⟨s0, s1, s2, s3, s4, s5, s6, s7, s8, s9, s10, s11, s12, s13, s14, s15, s16, s17, s18, s19, s20, s21, s22, s23, s24, s25, s26, s27, s28, s29, s30, s31, s32, s33, s34, s35, s36, s37, s38, s39, s40, s41, s42, s43, s44, s45, s46, s47, s48, s49, s50, s51, s52, s53, s54, s55, s56, s57, s58, s59, s60, s61, s62, s63, s64, s65, s66, s67, s68, s69, s70, s71⟩
             go_simp
             with_reducible rfl
            rotate_left
            ·simp only [Act.put, List.setIfInBounds_toArray, List.set_cons_zero, List.set_cons_succ, i64_w, i32_w]
             rfl
            refine take_ (i := 47) (N := some 92) (v := ?_) (a' := ?_) #[true, true, true, true, true, true, true, true, true, true, true, true, true, true, true, true, true, true, true, true, true, true, true, true, true, true, true, true, true, true, true, true, true, true, true, true, true, true, true, true, true, false, false, true, true, true, true, true, true, false, false, false] rfl rfl (take_ofW HT_.out HW_.out (by kernel_rfl)) (fun _ _ _ h => h) (Or.inl ⟨by rfl, ?_⟩) hHeld ?_ ?_
            rotate_left
            ·rintro w' ⟨s0, s1, s2, s3, s4, s5, s6, s7, s8, s9, s10, s11, s12, s13, s14, s15, s16, s17, s18, s19, s20, s21, s22, s23, s24, s25, s26, s27, s28, s29, s30, s31, s32, s33, s34, s35, s36, s37, s38, s39, s40, s41, s42, s43, s44, s45, s46, s47, s48, s49, s50, s51, s52, s53, s54, s55, s56, s57, s58, s59, s60, s61, s62, s63, s64, s65, s66, s67, s68, s69, s70, s71⟩
             go_simp
             with_reducible rfl
            rotate_left
            ·simp only [Act.put, List.setIfInBounds_toArray, List.set_cons_zero, List.set_cons_succ, i64_w, i32_w]
             rfl
            refine pure_ (i := 49) (N := some 94) (v := ?_) (a' := ?_) #[true, true, true, true, true, true, true, true, true, true, true, true, true, true, true, true, true, true, true, true, true, true, true, true, true, true, true, true, true, true, true, true, true, true, true, true, true, true, true, true, true, false, false, true, true, true, true, true, true, true, false, false] rfl rfl (any_of HT_.out (by kernel_rfl)) (fun _ _ _ h => h) (Or.inl ⟨by rfl, ?_⟩) ?_ ?_
            rotate_left
            ·intro w'
             go_simp
             with_reducible rfl
            rotate_left
            ·simp only [Act.put, List.setIfInBounds_toArray, List.set_cons_zero, List.set_cons_succ, i64_w, i32_w]
             rfl
            refine one_ (i := 41) (N := some 86) #[true, true, true, true, true, true, true, true, true, true, true, true, true, true, true, true, true, true, true, true, true, true, true, true, true, true, true, true, true, true, true, true, true, true, true, true, true, true, true, true, true, true, false, true, true, true, true, true, true, true, false, false] rfl rfl (one_of HT_.out (by kernel_rfl)) (by decide) (fun K hK => ?_)
            refine goes_ Try.func10 (by kernel_rfl) rfl #[.slice Ao31 t185.length co31, .int .i64 ((rd_T32 l0 x11_2).f0)] (by rfl) rfl rfl (by (try simp only [List.map_toArray, List.map_cons, List.map_nil]); first | done | rfl | (simp only [List.length_drop, List.length_take]; rfl)) ?_
            with_reducible refine (pend_Find.calls kj15 _ _ t185 ((rd_T32 l0 x11_2).f0) t200 _ ?side1 ?side2 A24.out).mono ?_
            (case side1 => repeat (first | exact (Kd.N_reads' HO_9.out).2.2 | (with_reducible refine Kd.C_alloc ?_ _) | (with_reducible refine Kd.C_drewN ?_ _) | (with_reducible refine Kd.C_drew ?_)))
            (case side2 => exact (Kd.N_reads' HO_9.out).2.1)
            rintro e w32 ⟨rfl, hb⟩
            refine ⟨_, rfl, ?_⟩
            have n0_ := Aside0.mk (Kd.N_below (by (with_reducible repeat (first | apply Kd.N_alloc | apply Kd.N_drewN | apply Kd.N_drew)); exact HO_7.out) hb)
            have n1_ := Aside0.mk (Kd.N_below (by (with_reducible repeat (first | apply Kd.N_alloc | apply Kd.N_drewN | apply Kd.N_drew)); exact HO_8.out) hb)
            have n2_ := Aside0.mk (Kd.N_below (by (with_reducible repeat (first | apply Kd.N_alloc | apply Kd.N_drewN | apply Kd.N_drew)); exact HO_9.out) hb)
            have n3_ := Aside0.mk (below_step (by repeat (first | (with_reducible first | exact HB.out | apply below_alloc | apply pw_below_drewN | apply below_drew1) | exact HB.out)) hb)
            clear HO_7
            clear HO_8
            clear HO_9
            clear HB
            have HO_7 := n0_
            have HO_8 := n1_
            have HO_9 := n2_
            have HB := n3_
            clear n0_ n1_ n2_ n3_
            (try clear hb)
            (try clear hb2)
            (try clear hk)
            (try clear hi)
            refine hK.out _ _ ⟨((HB.out.cell (World.block_lt_of_cell? w _ hw193_0)).trans hw193_0), ((HB.out.cell (World.block_lt_of_cell? w _ hw193_1)).trans hw193_1), ((HB.out.cell (World.block_lt_of_cell? w _ hw193_2)).trans hw193_2), ((HB.out.cell (World.block_lt_of_cell? w _ hw193_3)).trans hw193_3), ((HB.out.cell (World.block_lt_of_cell? w _ hw193_4)).trans hw193_4), ((HB.out.cell (World.block_lt_of_cell? w _ hw193_5)).trans hw193_5), ((HB.out.cell (World.block_lt_of_cell? w _ hw193_6)).trans hw193_6), ((HB.out.cell (World.block_lt_of_cell? w _ hw193_7)).trans hw193_7), ((HB.out.cell (World.block_lt_of_cell? w _ hw193_8)).trans hw193_8), ((HB.out.cell (World.block_lt_of_cell? w _ hw193_9)).trans hw193_9), ((HB.out.cell (World.block_lt_of_cell? w _ hw193_10)).trans hw193_10), ((HB.out.cell (World.block_lt_of_cell? w _ hw193_11)).trans hw193_11), ((HB.out.cell (World.block_lt_of_cell? w _ hw195_0)).trans hw195_0), ((HB.out.cell (World.block_lt_of_cell? w _ hw195_1)).trans hw195_1), ((HB.out.cell (World.block_lt_of_cell? w _ hw195_2)).trans hw195_2), ((HB.out.cell (World.block_lt_of_cell? w _ hw195_3)).trans hw195_3), ((HB.out.cell (World.block_lt_of_cell? w _ hw195_4)).trans hw195_4), ((HB.out.cell (World.block_lt_of_cell? w _ hw195_5)).trans hw195_5), ((HB.out.cell (World.block_lt_of_cell? w _ hw195_6)).trans hw195_6), ((HB.out.cell (World.block_lt_of_cell? w _ hw195_7)).trans hw195_7), ((HB.out.cell (World.block_lt_of_cell? w _ hw195_8)).trans hw195_8), ((HB.out.cell (World.block_lt_of_cell? w _ hw195_9)).trans hw195_9), ((HB.out.cell (World.block_lt_of_cell? w _ hw195_10)).trans hw195_10), ((HB.out.cell (World.block_lt_of_cell? w _ hw195_11)).trans hw195_11), ((HB.out.cell (World.block_lt_of_cell? w _ hw196_0)).trans hw196_0), ((HB.out.cell (World.block_lt_of_cell? w _ hw196_1)).trans hw196_1), ((HB.out.cell (World.block_lt_of_cell? w _ hw196_2)).trans hw196_2), ((HB.out.cell (World.block_lt_of_cell? w _ hw196_3)).trans hw196_3), ((HB.out.cell (World.block_lt_of_cell? w _ hw196_4)).trans hw196_4), ((HB.out.cell (World.block_lt_of_cell? w _ hw196_5)).trans hw196_5), ((HB.out.cell (World.block_lt_of_cell? w _ hw196_6)).trans hw196_6), ((HB.out.cell (World.block_lt_of_cell? w _ hw196_7)).trans hw196_7), ((HB.out.cell (World.block_lt_of_cell? w _ hw196_8)).trans hw196_8), ((HB.out.cell (World.block_lt_of_cell? w _ hw196_9)).trans hw196_9), ((HB.out.cell (World.block_lt_of_cell? w _ hw196_10)).trans hw196_10), ((HB.out.cell (World.block_lt_of_cell? w _ hw196_11)).trans hw196_11), ((HB.out.cell (World.block_lt_of_cell? w _ hw198_0)).trans hw198_0), ((HB.out.cell (World.block_lt_of_cell? w _ hw198_1)).trans hw198_1), ((HB.out.cell (World.block_lt_of_cell? w _ hw198_2)).trans hw198_2), ((HB.out.cell (World.block_lt_of_cell? w _ hw198_3)).trans hw198_3), ((HB.out.cell (World.block_lt_of_cell? w _ hw198_4)).trans hw198_4), ((HB.out.cell (World.block_lt_of_cell? w _ hw198_5)).trans hw198_5), ((HB.out.cell (World.block_lt_of_cell? w _ hw198_6)).trans hw198_6), ((HB.out.cell (World.block_lt_of_cell? w _ hw198_7)).trans hw198_7), ((HB.out.cell (World.block_lt_of_cell? w _ hw198_8)).trans hw198_8), ((HB.out.cell (World.block_lt_of_cell? w _ hw198_9)).trans hw198_9), ((HB.out.cell (World.block_lt_of_cell? w _ hw198_10)).trans hw198_10), ((HB.out.cell (World.block_lt_of_cell? w _ hw198_11)).trans hw198_11), ((HB.out.cell (World.block_lt_of_cell? w _ hw199_0)).trans hw199_0), ((HB.out.cell (World.block_lt_of_cell? w _ hw199_1)).trans hw199_1), ((HB.out.cell (World.block_lt_of_cell? w _ hw199_2)).trans hw199_2), ((HB.out.cell (World.block_lt_of_cell? w _ hw199_3)).trans hw199_3), ((HB.out.cell (World.block_lt_of_cell? w _ hw199_4)).trans hw199_4), ((HB.out.cell (World.block_lt_of_cell? w _ hw199_5)).trans hw199_5), ((HB.out.cell (World.block_lt_of_cell? w _ hw199_6)).trans hw199_6), ((HB.out.cell (World.block_lt_of_cell? w _ hw199_7)).trans hw199_7), ((HB.out.cell (World.block_lt_of_cell? w _ hw199_8)).trans hw199_8), ((HB.out.cell (World.block_lt_of_cell? w _ hw199_9)).trans hw199_9), ((HB.out.cell (World.block_lt_of_cell? w _ hw199_10)).trans hw199_10), ((HB.out.cell (World.block_lt_of_cell? w _ hw199_11)).trans hw199_11), ((HB.out.cell (World.block_lt_of_cell? w _ hw201_0)).trans hw201_0), ((HB.out.cell (World.block_lt_of_cell? w _ hw201_1)).trans hw201_1), ((HB.out.cell (World.block_lt_of_cell? w _ hw201_2)).trans hw201_2), ((HB.out.cell (World.block_lt_of_cell? w _ hw201_3)).trans hw201_3), ((HB.out.cell (World.block_lt_of_cell? w _ hw201_4)).trans hw201_4), ((HB.out.cell (World.block_lt_of_cell? w _ hw201_5)).trans hw201_5), ((HB.out.cell (World.block_lt_of_cell? w _ hw201_6)).trans hw201_6), ((HB.out.cell (World.block_lt_of_cell? w _ hw201_7)).trans hw201_7), ((HB.out.cell (World.block_lt_of_cell? w _ hw201_8)).trans hw201_8), ((HB.out.cell (World.block_lt_of_cell? w _ hw201_9)).trans hw201_9), ((HB.out.cell (World.block_lt_of_cell? w _ hw201_10)).trans hw201_10), ((HB.out.cell (World.block_lt_of_cell? w _ hw201_11)).trans hw201_11)⟩ (fun hHeld => ?_)
            clear hK K
            refine norm_ (a' := ?_) ?_ ?_
            rotate_left
            ·show Act.put _ (some 86) _ = _
             simp only [Act.put, List.setIfInBounds_toArray, List.set_cons_zero, List.set_cons_succ, i64_w, i32_w]
             rfl
            refine pure_ (i := 42) (N := some 87) (v := ?_) (a' := ?_) #[true, true, true, true, true, true, true, true, true, true, true, true, true, true, true, true, true, true, true, true, true, true, true, true, true, true, true, true, true, true, true, true, true, true, true, true, true, true, true, true, true, true, true, true, true, true, true, true, true, true, false, false] rfl rfl (any_of HT_.out (by kernel_rfl)) (fun _ _ _ h => h) (Or.inl ⟨by rfl, ?_⟩) ?_ ?_
            rotate_left
            ·intro w'
             go_simp
             with_reducible rfl
            rotate_left
            ·simp only [Act.put, List.setIfInBounds_toArray, List.set_cons_zero, List.set_cons_succ, i64_w, i32_w]
             rfl
            refine pure_ (i := 50) (N := some 95) (v := ?_) (a' := ?_) #[true, true, true, true, true, true, true, true, true, true, true, true, true, true, true, true, true, true, true, true, true, true, true, true, true, true, true, true, true, true, true, true, true, true, true, true, true, true, true, true, true, true, true, true, true, true, true, true, true, true, true, false] rfl rfl (any_of HT_.out (by kernel_rfl)) (fun _ _ _ h => h) (Or.inl ⟨by rfl, ?_⟩) ?_ ?_
            rotate_left
            ·intro w'
             go_simp
             with_reducible rfl
            rotate_left
            ·simp only [Act.put, List.setIfInBounds_toArray, List.set_cons_zero, List.set_cons_succ, i64_w, i32_w]
             rfl
            refine pure_ (i := 51) (N := some 96) (v := ?_) (a' := ?_) #[true, true, true, true, true, true, true, true, true, true, true, true, true, true, true, true, true, true, true, true, true, true, true, true, true, true, true, true, true, true, true, true, true, true, true, true, true, true, true, true, true, true, true, true, true, true, true, true, true, true, true, true] rfl rfl (any_of HT_.out (by kernel_rfl)) (fun _ _ _ h => h) (Or.inl ⟨by rfl, ?_⟩) ?_ ?_
            rotate_left
            ·intro w'
             go_simp
             with_reducible rfl
            rotate_left
            ·simp only [Act.put, List.setIfInBounds_toArray, List.set_cons_zero, List.set_cons_succ, i64_w, i32_w]
             rfl
            refine done_ (done_of HT_.out (by kernel_rfl)) ?_
            try go_wp2
            go_roundg kj15
            case measure => have := HJ3.out; have := HK2.out; have := HJ15.out; omega
            case rel => exact ⟨(x10_15), (wrap64 (x11_2 + 1)), (by first | rfl | (simp; done) | (simp [*]; done) | (simp [bne_nil_]; done)), (by first | rfl | (simp; done) | (simp [*]; done) | (simp [bne_nil_]; done)), H', ⟨by have := HJ3.out; have := HK2.out; have := HJ15.out; omega⟩, ⟨by (with_reducible repeat (first | apply Kd.N_alloc | apply Kd.N_drewN | apply Kd.N_drew)); exact HO_7.out⟩, ⟨by (with_reducible repeat (first | apply Kd.N_alloc | apply Kd.N_drewN | apply Kd.N_drew)); exact HO_8.out⟩, ⟨by (with_reducible repeat (first | apply Kd.N_alloc | apply Kd.N_drewN | apply Kd.N_drew)); exact HO_9.out⟩, ⟨by repeat (first | (with_reducible first | exact HB.out | apply below_alloc | apply pw_below_drewN | apply below_drew1) | exact HB.out)⟩⟩
      ·rw [if_neg c14] at H
       have c14b0 : decide (x11_2 < (l0.length : Int)) = false := decide_eq_false c14
       clear c14
       replace H := Option.bind_eq_some_iff.mp H
       obtain ⟨t188, A330, H⟩ := H
       replace H : (if t188 = true then (if (wrap64 ((t179.length : Int) + (t182.length : Int))) = (l0.length : Int) then (if (wrap64 ((t185.length : Int) + x10_2)) = (l0.length : Int) then ((pend_Outers.f k2 l0).bind fun t189 => (some ((t189.length : Int) == (l0.length : Int)))) else (none)) else (none)) else (none)) = some r := H
       have A33 := Aside0.mk A330
       clear A330
       by_cases c34 : t188 = true
       ·subst c34
        have H1 : (if (wrap64 ((t179.length : Int) + (t182.length : Int))) = (l0.length : Int) then (if (wrap64 ((t185.length : Int) + x10_2)) = (l0.length : Int) then ((pend_Outers.f k2 l0).bind fun t189 => (some ((t189.length : Int) == (l0.length : Int)))) else (none)) else (none)) = some r := by rw [if_pos rfl] at H; exact H
        clear H
        have H := H1
        clear H1
        by_cases c35 : (wrap64 ((t179.length : Int) + (t182.length : Int))) = (l0.length : Int)
        rotate_left
        ·rw [if_neg c35] at H
         exact absurd H (by simp)
        rw [if_pos c35] at H
        have c35b0 : ((wrap64 ((t179.length : Int) + (t182.length : Int))) == (l0.length : Int)) = true := beq_iff_eq.mpr c35
        have c35b1 : ((wrap64 ((t179.length : Int) + (t182.length : Int))) != (l0.length : Int)) = false := bne_eq_false_iff_eq.mpr c35
        clear c35
        by_cases c36 : (wrap64 ((t185.length : Int) + x10_2)) = (l0.length : Int)
        rotate_left
        ·rw [if_neg c36] at H
         exact absurd H (by simp)
        rw [if_pos c36] at H
        have c36b0 : ((wrap64 ((t185.length : Int) + x10_2)) == (l0.length : Int)) = true := beq_iff_eq.mpr c36
        have c36b1 : ((wrap64 ((t185.length : Int) + x10_2)) != (l0.length : Int)) = false := bne_eq_false_iff_eq.mpr c36
        clear c36
        replace H := Option.bind_eq_some_iff.mp H
        obtain ⟨t189, A370, H⟩ := H
        replace H : (some ((t189.length : Int) == (l0.length : Int))) = some r := H
        have A37 := Aside0.mk A370
        clear A370
        obtain rfl := Option.some.inj H
        go_wp2_with (first | ((with_reducible refine gate_callee (f := 7) rfl ?_); refine goesL_ (some 97) rfl rfl Try.func7 (by kernel_rfl) rfl #[] rfl (by (try simp only [List.map_toArray, List.map_cons, List.map_nil]); first | done | rfl | (simp only [List.length_drop, List.length_take]; rfl)) ?_; (with_reducible refine (law20_awake.calls k2  true _ A33.out).mono ?_); rintro e w38 ⟨rfl, hb⟩; refine ⟨_, rfl, ?_⟩; have n0_ := Aside0.mk (Kd.N_below (by (with_reducible repeat (first | apply Kd.N_alloc | apply Kd.N_drewN | apply Kd.N_drew)); exact HO_7.out) hb); have n1_ := Aside0.mk (Kd.N_below (by (with_reducible repeat (first | apply Kd.N_alloc | apply Kd.N_drewN | apply Kd.N_drew)); exact HO_8.out) hb); have n2_ := Aside0.mk (Kd.N_below (by (with_reducible repeat (first | apply Kd.N_alloc | apply Kd.N_drewN | apply Kd.N_drew)); exact HO_9.out) hb); have n3_ := Aside0.mk (below_step (by repeat (first | (with_reducible first | exact HB.out | apply below_alloc | apply pw_below_drewN | apply below_drew1) | exact HB.out)) hb); clear HO_7; clear HO_8; clear HO_9; clear HB; have HO_7 := n0_; have HO_8 := n1_; have HO_9 := n2_; have HB := n3_; clear n0_ n1_ n2_ n3_; (try clear hb); (try clear hb2); (try clear hk); (try clear hi); obtain ⟨Ao39, co39, eo39⟩ := Kd.N_slice HO_7.out; subst eo39; obtain ⟨Ao40, co40, eo40⟩ := Kd.N_slice HO_8.out; subst eo40; obtain ⟨Ao41, co41, eo41⟩ := Kd.N_slice HO_9.out; subst eo41) | (go_at_call 11; (with_reducible refine (pend_Outers.calls k2 _ _ l0 t189 _ ?side1 ?side2 A37.out).mono ?_); (case side1 => repeat (first | exact (Kd.C_below HR0.out HB.out) | (with_reducible refine Kd.C_alloc ?_ _) | (with_reducible refine Kd.C_drewN ?_ _) | (with_reducible refine Kd.C_drew ?_))); (case side2 => exact HC0.out); rintro e w42 ⟨v190, rfl, ho0, hb⟩; have n0_ := Aside0.mk (Kd.N_elder' (by (with_reducible repeat (first | apply Kd.N_alloc | apply Kd.N_drewN | apply Kd.N_drew)); exact HO_7.out) (Kd.R_base ho0) hb); have n1_ := Aside0.mk (Kd.N_elder' (by (with_reducible repeat (first | apply Kd.N_alloc | apply Kd.N_drewN | apply Kd.N_drew)); exact HO_8.out) (Kd.R_base ho0) hb); have n2_ := Aside0.mk (Kd.N_elder' (by (with_reducible repeat (first | apply Kd.N_alloc | apply Kd.N_drewN | apply Kd.N_drew)); exact HO_9.out) (Kd.R_base ho0) hb); have n3_ := Aside0.mk (Kd.R_lower ho0 (below_size (by repeat (first | (with_reducible first | exact HB.out | apply below_alloc | apply pw_below_drewN | apply below_drew1) | exact HB.out)))); have n4_ := Aside0.mk (below_step (by repeat (first | (with_reducible first | exact HB.out | apply below_alloc | apply pw_below_drewN | apply below_drew1) | exact HB.out)) hb); clear HO_7; clear HO_8; clear HO_9; clear HB; have HO_7 := n0_; have HO_8 := n1_; have HO_9 := n2_; have HO191 := n3_; have HB := n4_; clear n0_ n1_ n2_ n3_ n4_; (try clear hb); (try clear hb2); (try clear hk); (try clear hi); (try clear ho0); obtain ⟨Ao43, co43, eo43⟩ := Kd.R_slice HO191.out; subst eo43))
        go_ret
        exact ⟨by first | rfl | (simp [errW_none, errW_some] <;> rfl) | (simp [*, errW_none, errW_some] <;> rfl), by repeat (first | (with_reducible first | exact HB.out | apply below_alloc | apply pw_below_drewN | apply below_drew1) | exact HB.out)⟩
       ·replace c34 := Bool.eq_false_iff.mpr c34
        subst c34
        have H1 : (none) = some r := by rw [if_neg (show ¬ (false = true) by decide)] at H; exact H
        clear H
        have H := H1
        clear H1
        exact absurd H (by simp)

end Go.Proofs.Ytnmloapejbnejaa.P

-- Written by a program of this session (wip/mkprint.py). Not trusted: Lean checks it.
import Derived.Test.YtimljcnmochmnaaP0
import Derived.Test.YtimljcnmochmnaaP2
import Derived.Test.YtimljcnmochmnaaP4
import Derived.Test.YtimljcnmochmnaaP8
namespace Go.Proofs.Ytimljcnmochmnaa.P
open Go.RowKit Go.Proofs.YtimljcnmochmnaaW.PrintWords Go.Proofs.YtimljcnmochmnaaW.PrintLast Go.Proofs.YtimljcnmochmnaaW.PrintMore
attribute [local go_sem] max2_int min2_int max_two min_two max_three min_three max_four min_four   -- for this text's walks alone
set_option linter.unusedVariables false
set_option linter.unusedSimpArgs false

/-! ### law23_AuditBack: function 4 -/
mutual
def law23_AuditBack.j0 : Nat → List (S23) → ByteArray → Bool → Option (Bool)
 | 0, _, _, _ => none
 | k + 1, x0, x1, x25 => if x25 = true then ((law23_awake.f k).bind fun t265 => (some t265)) else (law23_AuditBack.l0 k x0 x1 (⟨#[]⟩ : ByteArray) true 0)
def law23_AuditBack.l0 : Nat → List (S23) → ByteArray → ByteArray → Bool → Int → Option (Bool)
 | 0, _, _, _, _, _ => none
 | k + 1, x0, x1, x5, x6, x7 => if x7 < (x0.length : Int) then (if 0 ≤ x7 then ((audit_Put.f k ((rd_T23 x0 x7).f0) ((rd_T23 x0 x7).f1) ((rd_T23 x0 x7).f2) ((rd_T23 x0 x7).f3) ((rd_T23 x0 x7).f4) ((rd_T23 x0 x7).f5) ((rd_T23 x0 x7).f6) ((rd_T23 x0 x7).f7) ((rd_T23 x0 x7).f8)).bind fun bt267 => ((audit_Right.f k ((rd_T23 x0 x7).f0) ((rd_T23 x0 x7).f1) ((rd_T23 x0 x7).f2) ((rd_T23 x0 x7).f3) ((rd_T23 x0 x7).f4) ((rd_T23 x0 x7).f5) ((rd_T23 x0 x7).f6) ((rd_T23 x0 x7).f7) ((rd_T23 x0 x7).f8)).bind fun t270 => (if (bt267.2 != t270) = true then (none) else (if x5.size + bt267.1.size ≤ 9223372036854775807 then (if x6 = true then (law23_AuditBack.l0 k x0 x1 (x5 ++ bt267.1) bt267.2 (wrap64 (x7 + 1))) else (law23_AuditBack.l0 k x0 x1 (x5 ++ bt267.1) false (wrap64 (x7 + 1)))) else (none))))) else (none)) else ((audit_All.f k x5).bind fun bt271 => (if x6 = true then (if bt271.2 = true then ((ref23_Same.f k x0 bt271.1).bind fun t275 => (if t275 = true then (law23_AuditBack.j2 k x1 ((x5.size : Int) != (wrap64 (20 * (x0.length : Int))))) else (law23_AuditBack.j2 k x1 true))) else (law23_AuditBack.j2 k x1 true)) else (law23_AuditBack.j2 k x1 false)))
def law23_AuditBack.j2 : Nat → ByteArray → Bool → Option (Bool)
 | 0, _, _ => none
 | k + 1, x1, x78 => if x78 = true then (none) else ((audit_All.f k x1).bind fun bt276 => (law23_AuditBack.l1 k x1 bt276.1 bt276.2 (⟨#[]⟩ : ByteArray) 0))
def law23_AuditBack.l1 : Nat → ByteArray → List (S23) → Bool → ByteArray → Int → Option (Bool)
 | 0, _, _, _, _, _ => none
 | k + 1, x1, x12, x13, x14, x15 => if x15 < (x12.length : Int) then (if 0 ≤ x15 then ((audit_Put.f k ((rd_T23 x12 x15).f0) ((rd_T23 x12 x15).f1) ((rd_T23 x12 x15).f2) ((rd_T23 x12 x15).f3) ((rd_T23 x12 x15).f4) ((rd_T23 x12 x15).f5) ((rd_T23 x12 x15).f6) ((rd_T23 x12 x15).f7) ((rd_T23 x12 x15).f8)).bind fun bt281 => (if x14.size + bt281.1.size ≤ 9223372036854775807 then (law23_AuditBack.l1 k x1 x12 x13 (x14 ++ bt281.1) (wrap64 (x15 + 1))) else (none))) else (none)) else ((law23_awake.f k).bind fun t283 => (if t283 = true then (if x13 = true then (if x14.toList = x1.toList then (some true) else (none)) else (some ((x12.length : Int) == 0))) else (none)))
end
def law23_AuditBack.f (k : Nat) (l0 : List (S23)) (a1 : ByteArray) : Option (Bool) := if (l0.length : Int) > 30 then (law23_AuditBack.j0 k l0 a1 true) else (law23_AuditBack.j0 k l0 a1 (decide ((a1.size : Int) > 1000)))
theorem law23_AuditBack.mono_l : ∀ k, (∀ y0 y1 y2, LeO (law23_AuditBack.j0 k y0 y1 y2) (law23_AuditBack.j0 (k + 1) y0 y1 y2)) ∧ (∀ y0 y1 y2 y3 y4, LeO (law23_AuditBack.l0 k y0 y1 y2 y3 y4) (law23_AuditBack.l0 (k + 1) y0 y1 y2 y3 y4)) ∧ (∀ y0 y1, LeO (law23_AuditBack.j2 k y0 y1) (law23_AuditBack.j2 (k + 1) y0 y1)) ∧ (∀ y0 y1 y2 y3 y4, LeO (law23_AuditBack.l1 k y0 y1 y2 y3 y4) (law23_AuditBack.l1 (k + 1) y0 y1 y2 y3 y4))
 | 0 => ⟨fun _ _ _ r h => by simp [law23_AuditBack.j0] at h, fun _ _ _ _ _ r h => by simp [law23_AuditBack.l0] at h, fun _ _ r h => by simp [law23_AuditBack.j2] at h, fun _ _ _ _ _ r h => by simp [law23_AuditBack.l1] at h⟩
 | k + 1 => by
  obtain ⟨ih0, ih1, ih2, ih3⟩ := law23_AuditBack.mono_l k
  refine ⟨?_, ?_, ?_, ?_⟩
  ·intro y0 y1 y2
   unfold law23_AuditBack.j0
   repeat' first
   | (with_reducible exact ih0 _ _ _)
   | (with_reducible exact ih1 _ _ _ _ _)
   | (with_reducible exact ih2 _ _)
   | (with_reducible exact ih3 _ _ _ _ _)
   | (with_reducible exact audit_All.mono _ _)
   | (with_reducible exact audit_Put.mono _ _ _ _ _ _ _ _ _ _)
   | (with_reducible exact audit_Right.mono _ _ _ _ _ _ _ _ _ _)
   | (with_reducible exact law23_awake.mono _)
   | (with_reducible exact ref23_Same.mono _ _ _)
   | (with_reducible exact LeO.refl _)
   | (with_reducible exact LeO.none _)
   | (with_reducible refine LeO.ite ?_ ?_)
   | (with_reducible refine LeO.bind ?_ (fun _ => ?_))
   | exact ih0 _ _ _
   | exact ih1 _ _ _ _ _
   | exact ih2 _ _
   | exact ih3 _ _ _ _ _
   | exact audit_All.mono _ _
   | exact audit_Put.mono _ _ _ _ _ _ _ _ _ _
   | exact audit_Right.mono _ _ _ _ _ _ _ _ _ _
   | exact law23_awake.mono _
   | exact ref23_Same.mono _ _ _
   | exact LeO.none _
   | refine LeO.ite ?_ ?_
   | refine LeO.bind ?_ (fun _ => ?_)
  ·intro y0 y1 y2 y3 y4
   unfold law23_AuditBack.l0
   repeat' first
   | (with_reducible exact ih0 _ _ _)
   | (with_reducible exact ih1 _ _ _ _ _)
   | (with_reducible exact ih2 _ _)
   | (with_reducible exact ih3 _ _ _ _ _)
   | (with_reducible exact audit_All.mono _ _)
   | (with_reducible exact audit_Put.mono _ _ _ _ _ _ _ _ _ _)
   | (with_reducible exact audit_Right.mono _ _ _ _ _ _ _ _ _ _)
   | (with_reducible exact law23_awake.mono _)
   | (with_reducible exact ref23_Same.mono _ _ _)
   | (with_reducible exact LeO.refl _)
   | (with_reducible exact LeO.none _)
   | (with_reducible refine LeO.ite ?_ ?_)
   | (with_reducible refine LeO.bind ?_ (fun _ => ?_))
   | exact ih0 _ _ _
   | exact ih1 _ _ _ _ _
   | exact ih2 _ _
   | exact ih3 _ _ _ _ _
   | exact audit_All.mono _ _
   | exact audit_Put.mono _ _ _ _ _ _ _ _ _ _
   | exact audit_Right.mono _ _ _ _ _ _ _ _ _ _
   | exact law23_awake.mono _
   | exact ref23_Same.mono _ _ _
   | exact LeO.none _
   | refine LeO.ite ?_ ?_
   | refine LeO.bind ?_ (fun _ => ?_)
  ·intro y0 y1
   unfold law23_AuditBack.j2
   repeat' first
   | (with_reducible exact ih0 _ _ _)
   | (with_reducible exact ih1 _ _ _ _ _)
   | (with_reducible exact ih2 _ _)
   | (with_reducible exact ih3 _ _ _ _ _)
   | (with_reducible exact audit_All.mono _ _)
   | (with_reducible exact audit_Put.mono _ _ _ _ _ _ _ _ _ _)
   | (with_reducible exact audit_Right.mono _ _ _ _ _ _ _ _ _ _)
   | (with_reducible exact law23_awake.mono _)
   | (with_reducible exact ref23_Same.mono _ _ _)
   | (with_reducible exact LeO.refl _)
   | (with_reducible exact LeO.none _)
   | (with_reducible refine LeO.ite ?_ ?_)
   | (with_reducible refine LeO.bind ?_ (fun _ => ?_))
   | exact ih0 _ _ _
   | exact ih1 _ _ _ _ _
   | exact ih2 _ _
   | exact ih3 _ _ _ _ _
   | exact audit_All.mono _ _
   | exact audit_Put.mono _ _ _ _ _ _ _ _ _ _
   | exact audit_Right.mono _ _ _ _ _ _ _ _ _ _
   | exact law23_awake.mono _
   | exact ref23_Same.mono _ _ _
   | exact LeO.none _
   | refine LeO.ite ?_ ?_
   | refine LeO.bind ?_ (fun _ => ?_)
  ·intro y0 y1 y2 y3 y4
   unfold law23_AuditBack.l1
   repeat' first
   | (with_reducible exact ih0 _ _ _)
   | (with_reducible exact ih1 _ _ _ _ _)
   | (with_reducible exact ih2 _ _)
   | (with_reducible exact ih3 _ _ _ _ _)
   | (with_reducible exact audit_All.mono _ _)
   | (with_reducible exact audit_Put.mono _ _ _ _ _ _ _ _ _ _)
   | (with_reducible exact audit_Right.mono _ _ _ _ _ _ _ _ _ _)
   | (with_reducible exact law23_awake.mono _)
   | (with_reducible exact ref23_Same.mono _ _ _)
   | (with_reducible exact LeO.refl _)
   | (with_reducible exact LeO.none _)
   | (with_reducible refine LeO.ite ?_ ?_)
   | (with_reducible refine LeO.bind ?_ (fun _ => ?_))
   | exact ih0 _ _ _
   | exact ih1 _ _ _ _ _
   | exact ih2 _ _
   | exact ih3 _ _ _ _ _
   | exact audit_All.mono _ _
   | exact audit_Put.mono _ _ _ _ _ _ _ _ _ _
   | exact audit_Right.mono _ _ _ _ _ _ _ _ _ _
   | exact law23_awake.mono _
   | exact ref23_Same.mono _ _ _
   | exact LeO.none _
   | refine LeO.ite ?_ ?_
   | refine LeO.bind ?_ (fun _ => ?_)
theorem law23_AuditBack.mono : ∀ a0 a1 k, LeO (law23_AuditBack.f k a0 a1) (law23_AuditBack.f (k + 1) a0 a1) := by
 intro a0 a1 k
 obtain ⟨ih0, ih1, ih2, ih3⟩ := law23_AuditBack.mono_l k
 unfold law23_AuditBack.f
 repeat' first
  | (with_reducible exact ih0 _ _ _)
  | (with_reducible exact ih1 _ _ _ _ _)
  | (with_reducible exact ih2 _ _)
  | (with_reducible exact ih3 _ _ _ _ _)
  | (with_reducible exact audit_All.mono _ _)
  | (with_reducible exact audit_Put.mono _ _ _ _ _ _ _ _ _ _)
  | (with_reducible exact audit_Right.mono _ _ _ _ _ _ _ _ _ _)
  | (with_reducible exact law23_awake.mono _)
  | (with_reducible exact ref23_Same.mono _ _ _)
  | (with_reducible exact LeO.refl _)
  | (with_reducible exact LeO.none _)
  | (with_reducible refine LeO.ite ?_ ?_)
  | (with_reducible refine LeO.bind ?_ (fun _ => ?_))
  | exact ih0 _ _ _
  | exact ih1 _ _ _ _ _
  | exact ih2 _ _
  | exact ih3 _ _ _ _ _
  | exact audit_All.mono _ _
  | exact audit_Put.mono _ _ _ _ _ _ _ _ _ _
  | exact audit_Right.mono _ _ _ _ _ _ _ _ _ _
  | exact law23_awake.mono _
  | exact ref23_Same.mono _ _ _
  | exact LeO.none _
  | refine LeO.ite ?_ ?_
  | refine LeO.bind ?_ (fun _ => ?_)
set_option maxHeartbeats 8000000 in
set_option maxRecDepth 100000 in
theorem law23_AuditBack.calls (k : Nat) (A0 : Option Addr) (c0 : Nat) (l0 : List (S23)) (a1 : ByteArray) (r : Bool) (w : World) (hr0 : Kd.C k23 w A0 l0.length l0) (hc0 : l0.length ≤ c0) (h : law23_AuditBack.f k l0 a1 = some r) :
 Calls Try.prog 4 #[.slice A0 l0.length c0, .string a1] w fun e w' => e = .returned (.bool r) ∧ Below w.heap.size w w' := by
 have hu23 := Try.underlying23
 have HR0 := Aside0.mk hr0
 have HC0 := Aside0.mk hc0
 clear hr0 hc0
 have HB := Aside0.mk (Below.refl w.heap.size w)
 have H : (if (l0.length : Int) > 30 then (law23_AuditBack.j0 k l0 a1 true) else (law23_AuditBack.j0 k l0 a1 (decide ((a1.size : Int) > 1000)))) = some r := h
 clear h
 have HC3 := Aside0.mk H
 clear H
 go_enter Try.func4, Try.ntmps4
 go_upto_region 1 with (fail)
 go_cut [25] (fun v25 wc => ∃ (kq : Nat) (x25_2 : Bool), v25 = .bool x25_2 ∧ Aside0 (law23_AuditBack.j0 kq l0 a1 x25_2 = some r) ∧ Aside0 (kq ≤ k) ∧ Aside0 (Below w.heap.size w wc))
 case first =>
  have H := HC3.out
  clear HC3
  by_cases c4 : (l0.length : Int) > 30
  ·rw [if_pos c4] at H
   have c4b0 : decide (30 < (l0.length : Int)) = true := decide_eq_true c4
   have c4b1 : decide (30 < l0.length) = true := decide_eq_true (by omega)
   clear c4
   (first | rw [c4b0] | (simp only [i64_w, i32_w]; rw [c4b0]) | skip)
   have H' := Aside0.mk H
   clear H
   go_wp2
   go_meet
   case rel => exact ⟨_, (true), (by first | rfl | (simp; done) | (simp [*]; done) | (simp [bne_nil_]; done)), H', ⟨by first | omega | exact Nat.le_refl _⟩, ⟨by repeat (first | (with_reducible first | exact HB.out | apply below_alloc | apply pw_below_drewN | apply below_drew1) | exact HB.out)⟩⟩
  ·rw [if_neg c4] at H
   have c4b0 : decide (30 < (l0.length : Int)) = false := decide_eq_false c4
   have c4b1 : decide (30 < l0.length) = false := decide_eq_false (by omega)
   clear c4
   (first | rw [c4b0] | (simp only [i64_w, i32_w]; rw [c4b0]) | skip)
   have H' := Aside0.mk H
   clear H
   go_wp2
   go_meet
   case rel => exact ⟨_, (decide ((a1.size : Int) > 1000)), (by first | rfl | (simp; done) | (simp [*]; done) | (simp [bne_nil_]; done)), H', ⟨by first | omega | exact Nat.le_refl _⟩, ⟨by repeat (first | (with_reducible first | exact HB.out | apply below_alloc | apply pw_below_drewN | apply below_drew1) | exact HB.out)⟩⟩
 case rest =>
  clear HC3
  try clear p2
  try clear c4
  try clear c4b0
  try clear c4b1
  obtain ⟨kq, x25_2, rfl, HA, HJ2, HB⟩ := hcut
  cases kq with
  | zero => exact absurd HA.out (by simp [law23_AuditBack.j0])
  | succ kj2 =>
   have H := HA.out
   clear HA
   simp only [law23_AuditBack.j0] at H
   by_cases c5 : x25_2 = true
   ·subst c5
    have H1 : ((law23_awake.f kj2).bind fun t265 => (some t265)) = some r := by rw [if_pos rfl] at H; exact H
    clear H
    have H := H1
    clear H1
    replace H := Option.bind_eq_some_iff.mp H
    obtain ⟨t265, A60, H⟩ := H
    replace H : (some t265) = some r := H
    have A6 := Aside0.mk A60
    clear A60
    obtain rfl := Option.some.inj H
    go_wp2_with (first | ((with_reducible refine gate_callee (f := 5) rfl ?_); refine goesL_ (some 26) rfl rfl Try.func5 (by kernel_rfl) rfl #[] rfl (by (try simp only [List.map_toArray, List.map_cons, List.map_nil]); first | done | rfl | (simp only [List.length_drop, List.length_take]; rfl)) ?_; (with_reducible refine (law23_awake.calls kj2  t265 _ A6.out).mono ?_); rintro e w7 ⟨rfl, hb⟩; refine ⟨_, rfl, ?_⟩; have n0_ := Aside0.mk (below_step (by repeat (first | (with_reducible first | exact HB.out | apply below_alloc | apply pw_below_drewN | apply below_drew1) | exact HB.out)) hb); clear HB; have HB := n0_; clear n0_; (try clear hb); (try clear hb2); (try clear hk); (try clear hi)))
    go_ret
    exact ⟨by first | rfl | (simp [errW_none, errW_some] <;> rfl) | (simp [*, errW_none, errW_some] <;> rfl), by repeat (first | (with_reducible first | exact HB.out | apply below_alloc | apply pw_below_drewN | apply below_drew1) | exact HB.out)⟩
   ·replace c5 := Bool.eq_false_iff.mpr c5
    subst c5
    have H1 : (law23_AuditBack.l0 kj2 l0 a1 (⟨#[]⟩ : ByteArray) true 0) = some r := by rw [if_neg (show ¬ (false = true) by decide)] at H; exact H
    clear H
    have H := H1
    clear H1
    have H' := Aside0.mk H
    clear H
    go_wp2
    go_loopg [5, 6, 7] kj2 (fun kq v5 v6 v7 w' => ∃ (x5_2 : ByteArray) (x6_2 : Bool) (x7_2 : Int), v5 = .string x5_2 ∧ v6 = .bool x6_2 ∧ v7 = .int .i64 x7_2 ∧ Aside0 (law23_AuditBack.l0 kq l0 a1 x5_2 x6_2 x7_2 = some r) ∧ Aside0 (kq ≤ kj2) ∧ Aside0 (Below w.heap.size w w'))
    case atStart => exact ⟨((⟨#[]⟩ : ByteArray)), (true), (0), (by first | rfl | (simp; done) | (simp [*]; done) | (simp [bne_nil_]; done)), (by first | rfl | (simp; done) | (simp [*]; done) | (simp [bne_nil_]; done)), (by first | rfl | (simp; done) | (simp [*]; done) | (simp [bne_nil_]; done)), H', ⟨Nat.le_refl _⟩, ⟨by repeat (first | (with_reducible first | exact HB.out | apply below_alloc | apply pw_below_drewN | apply below_drew1) | exact HB.out)⟩⟩
    case round =>
     clear H'
     try clear p2
     try clear c4
     try clear c4b0
     try clear c4b1
     try clear c5
     try clear p2
     obtain ⟨x5_2, x6_2, x7_2, rfl, rfl, rfl, HA, HK2, HB⟩ := hrel
     cases gk with
     | zero => exact absurd HA.out (by simp [law23_AuditBack.l0])
     | succ k2 =>
      have H := HA.out
      clear HA
      simp only [law23_AuditBack.l0] at H
      by_cases c8 : x7_2 < (l0.length : Int)
      ·rw [if_pos c8] at H
       have c8b0 : decide (x7_2 < (l0.length : Int)) = true := decide_eq_true c8
       clear c8
       by_cases c9 : 0 ≤ x7_2
       rotate_left
       ·rw [if_neg c9] at H
        exact absurd H (by simp)
       rw [if_pos c9] at H
       have c9b0 : decide (0 ≤ x7_2) = true := decide_eq_true c9
       clear c9
       replace H := Option.bind_eq_some_iff.mp H
       obtain ⟨⟨t267, t268⟩, A100, H⟩ := H
       replace H : ((audit_Right.f k2 ((rd_T23 l0 x7_2).f0) ((rd_T23 l0 x7_2).f1) ((rd_T23 l0 x7_2).f2) ((rd_T23 l0 x7_2).f3) ((rd_T23 l0 x7_2).f4) ((rd_T23 l0 x7_2).f5) ((rd_T23 l0 x7_2).f6) ((rd_T23 l0 x7_2).f7) ((rd_T23 l0 x7_2).f8)).bind fun t270 => (if (t268 != t270) = true then (none) else (if x5_2.size + t267.size ≤ 9223372036854775807 then (if x6_2 = true then (law23_AuditBack.l0 k2 l0 a1 (x5_2 ++ t267) t268 (wrap64 (x7_2 + 1))) else (law23_AuditBack.l0 k2 l0 a1 (x5_2 ++ t267) false (wrap64 (x7_2 + 1)))) else (none)))) = some r := H
       have A10 := Aside0.mk A100
       clear A100
       replace H := Option.bind_eq_some_iff.mp H
       obtain ⟨t270, A110, H⟩ := H
       replace H : (if (t268 != t270) = true then (none) else (if x5_2.size + t267.size ≤ 9223372036854775807 then (if x6_2 = true then (law23_AuditBack.l0 k2 l0 a1 (x5_2 ++ t267) t268 (wrap64 (x7_2 + 1))) else (law23_AuditBack.l0 k2 l0 a1 (x5_2 ++ t267) false (wrap64 (x7_2 + 1)))) else (none))) = some r := H
       have A11 := Aside0.mk A110
       clear A110
       by_cases c12 : (t268 != t270) = true
       ·rw [if_pos c12] at H
        exact absurd H (by simp)
       ·rw [if_neg c12] at H
        have c12b0 : (t268 != t270) = false := by simpa using c12
        (try (have c12b1 : decide (t268 = t270) = true := by simpa using c12))
        (try (have c12b2 : (t268 == t270) = true := by simpa using c12))
        clear c12
        by_cases c13 : x5_2.size + t267.size ≤ 9223372036854775807
        rotate_left
        ·rw [if_neg c13] at H
         exact absurd H (by simp)
        rw [if_pos c13] at H
        have c13b0 := eq_true c13
        have c13b1 : decide (x5_2.size + t267.size ≤ 9223372036854775807) = true := decide_eq_true c13
        try have c13b2 : (9223372036854775807 < x5_2.size + t267.size) = False := eq_false (Nat.not_lt.2 c13)
        by_cases c14 : x6_2 = true
        ·subst c14
         have H1 : (law23_AuditBack.l0 k2 l0 a1 (x5_2 ++ t267) t268 (wrap64 (x7_2 + 1))) = some r := by rw [if_pos rfl] at H; exact H
         clear H
         have H := H1
         clear H1
         have H' := Aside0.mk H
         clear H
         have p266 : 0 ≤ (x7_2 : Int) := of_decide_eq_true (by first | (with_reducible assumption) | assumption)
         have q266 : x7_2 < (l0.length : Int) := of_decide_eq_true (by first | (with_reducible assumption) | assumption)
         obtain ⟨ad266, e266, hx266_0, hx266_1, hx266_2, hx266_3, hx266_4, hx266_5, hx266_6, hx266_7, hx266_8⟩ := at_T23 HR0.out x7_2 p266 q266
         cases e266
         replace hx266_0 := (HB.out.cell (World.block_lt_of_cell? w _ hx266_0)).trans hx266_0
         replace hx266_1 := (HB.out.cell (World.block_lt_of_cell? w _ hx266_1)).trans hx266_1
         replace hx266_2 := (HB.out.cell (World.block_lt_of_cell? w _ hx266_2)).trans hx266_2
         replace hx266_3 := (HB.out.cell (World.block_lt_of_cell? w _ hx266_3)).trans hx266_3
         replace hx266_4 := (HB.out.cell (World.block_lt_of_cell? w _ hx266_4)).trans hx266_4
         replace hx266_5 := (HB.out.cell (World.block_lt_of_cell? w _ hx266_5)).trans hx266_5
         replace hx266_6 := (HB.out.cell (World.block_lt_of_cell? w _ hx266_6)).trans hx266_6
         replace hx266_7 := (HB.out.cell (World.block_lt_of_cell? w _ hx266_7)).trans hx266_7
         replace hx266_8 := (HB.out.cell (World.block_lt_of_cell? w _ hx266_8)).trans hx266_8
         replace p266 := eq_true p266
         replace q266 := eq_true q266
         go_wp2_with (first | ((with_reducible refine gate_callee (f := 6) rfl ?_); refine goesL_ (some 38) rfl rfl Try.func6 (by kernel_rfl) rfl #[.agg #[.int .i64 ((rd_T23 l0 x7_2).f0), .int .i64 ((rd_T23 l0 x7_2).f1), .int .i64 ((rd_T23 l0 x7_2).f2), .int .i64 ((rd_T23 l0 x7_2).f3), .int .i64 ((rd_T23 l0 x7_2).f4), .int .i64 ((rd_T23 l0 x7_2).f5), .int .i64 ((rd_T23 l0 x7_2).f6), .int .i64 ((rd_T23 l0 x7_2).f7), .int .i64 ((rd_T23 l0 x7_2).f8)]] rfl (by (try simp only [List.map_toArray, List.map_cons, List.map_nil]); first | done | rfl | (simp only [List.length_drop, List.length_take]; rfl)) ?_; (with_reducible refine (audit_Put.calls k2 ((rd_T23 l0 x7_2).f0) ((rd_T23 l0 x7_2).f1) ((rd_T23 l0 x7_2).f2) ((rd_T23 l0 x7_2).f3) ((rd_T23 l0 x7_2).f4) ((rd_T23 l0 x7_2).f5) ((rd_T23 l0 x7_2).f6) ((rd_T23 l0 x7_2).f7) ((rd_T23 l0 x7_2).f8) t267 t268 _ A10.out).mono ?_); rintro e w15 ⟨rfl, hb⟩; refine ⟨_, rfl, ?_⟩; have n0_ := Aside0.mk (below_step (by repeat (first | (with_reducible first | exact HB.out | apply below_alloc | apply pw_below_drewN | apply below_drew1) | exact HB.out)) hb); clear HB; have HB := n0_; clear n0_; (try clear hb); (try clear hb2); (try clear hk); (try clear hi); have p269 : 0 ≤ (x7_2 : Int) := of_decide_eq_true (by first | (with_reducible assumption) | assumption); have q269 : x7_2 < (l0.length : Int) := of_decide_eq_true (by first | (with_reducible assumption) | assumption); obtain ⟨ad269, e269, hx269_0, hx269_1, hx269_2, hx269_3, hx269_4, hx269_5, hx269_6, hx269_7, hx269_8⟩ := at_T23 HR0.out x7_2 p269 q269; obtain rfl : ad266 = ad269 := (by injection e269); replace hx269_0 := (HB.out.cell (World.block_lt_of_cell? w _ hx269_0)).trans hx269_0; replace hx269_1 := (HB.out.cell (World.block_lt_of_cell? w _ hx269_1)).trans hx269_1; replace hx269_2 := (HB.out.cell (World.block_lt_of_cell? w _ hx269_2)).trans hx269_2; replace hx269_3 := (HB.out.cell (World.block_lt_of_cell? w _ hx269_3)).trans hx269_3; replace hx269_4 := (HB.out.cell (World.block_lt_of_cell? w _ hx269_4)).trans hx269_4; replace hx269_5 := (HB.out.cell (World.block_lt_of_cell? w _ hx269_5)).trans hx269_5; replace hx269_6 := (HB.out.cell (World.block_lt_of_cell? w _ hx269_6)).trans hx269_6; replace hx269_7 := (HB.out.cell (World.block_lt_of_cell? w _ hx269_7)).trans hx269_7; replace hx269_8 := (HB.out.cell (World.block_lt_of_cell? w _ hx269_8)).trans hx269_8; replace p269 := eq_true p269; replace q269 := eq_true q269) | ((with_reducible refine gate_callee (f := 12) rfl ?_); refine goesL_ (some 46) rfl rfl Try.func12 (by kernel_rfl) rfl #[.agg #[.int .i64 ((rd_T23 l0 x7_2).f0), .int .i64 ((rd_T23 l0 x7_2).f1), .int .i64 ((rd_T23 l0 x7_2).f2), .int .i64 ((rd_T23 l0 x7_2).f3), .int .i64 ((rd_T23 l0 x7_2).f4), .int .i64 ((rd_T23 l0 x7_2).f5), .int .i64 ((rd_T23 l0 x7_2).f6), .int .i64 ((rd_T23 l0 x7_2).f7), .int .i64 ((rd_T23 l0 x7_2).f8)]] rfl (by (try simp only [List.map_toArray, List.map_cons, List.map_nil]); first | done | rfl | (simp only [List.length_drop, List.length_take]; rfl)) ?_; (with_reducible refine (audit_Right.calls k2 ((rd_T23 l0 x7_2).f0) ((rd_T23 l0 x7_2).f1) ((rd_T23 l0 x7_2).f2) ((rd_T23 l0 x7_2).f3) ((rd_T23 l0 x7_2).f4) ((rd_T23 l0 x7_2).f5) ((rd_T23 l0 x7_2).f6) ((rd_T23 l0 x7_2).f7) ((rd_T23 l0 x7_2).f8) t270 _ A11.out).mono ?_); rintro e w16 ⟨rfl, hb⟩; refine ⟨_, rfl, ?_⟩; have n0_ := Aside0.mk (below_step (by repeat (first | (with_reducible first | exact HB.out | apply below_alloc | apply pw_below_drewN | apply below_drew1) | exact HB.out)) hb); clear HB; have HB := n0_; clear n0_; (try clear hb); (try clear hb2); (try clear hk); (try clear hi)))
         go_roundg k2
         case measure => have := HJ2.out; have := HK2.out; omega
         case rel => exact ⟨(x5_2 ++ t267), (t268), (wrap64 (x7_2 + 1)), (by first | rfl | (simp; done) | (simp [*]; done) | (simp [bne_nil_]; done)), (by first | rfl | (simp; done) | (simp [*]; done) | (simp [bne_nil_]; done)), (by first | rfl | (simp; done) | (simp [*]; done) | (simp [bne_nil_]; done)), H', ⟨by have := HJ2.out; have := HK2.out; omega⟩, ⟨by repeat (first | (with_reducible first | exact HB.out | apply below_alloc | apply pw_below_drewN | apply below_drew1) | exact HB.out)⟩⟩
        ·replace c14 := Bool.eq_false_iff.mpr c14
         subst c14
         have H1 : (law23_AuditBack.l0 k2 l0 a1 (x5_2 ++ t267) false (wrap64 (x7_2 + 1))) = some r := by rw [if_neg (show ¬ (false = true) by decide)] at H; exact H
         clear H
         have H := H1
         clear H1
         have H' := Aside0.mk H
         clear H
         have p266 : 0 ≤ (x7_2 : Int) := of_decide_eq_true (by first | (with_reducible assumption) | assumption)
         have q266 : x7_2 < (l0.length : Int) := of_decide_eq_true (by first | (with_reducible assumption) | assumption)
         obtain ⟨ad266, e266, hx266_0, hx266_1, hx266_2, hx266_3, hx266_4, hx266_5, hx266_6, hx266_7, hx266_8⟩ := at_T23 HR0.out x7_2 p266 q266
         cases e266
         replace hx266_0 := (HB.out.cell (World.block_lt_of_cell? w _ hx266_0)).trans hx266_0
         replace hx266_1 := (HB.out.cell (World.block_lt_of_cell? w _ hx266_1)).trans hx266_1
         replace hx266_2 := (HB.out.cell (World.block_lt_of_cell? w _ hx266_2)).trans hx266_2
         replace hx266_3 := (HB.out.cell (World.block_lt_of_cell? w _ hx266_3)).trans hx266_3
         replace hx266_4 := (HB.out.cell (World.block_lt_of_cell? w _ hx266_4)).trans hx266_4
         replace hx266_5 := (HB.out.cell (World.block_lt_of_cell? w _ hx266_5)).trans hx266_5
         replace hx266_6 := (HB.out.cell (World.block_lt_of_cell? w _ hx266_6)).trans hx266_6
         replace hx266_7 := (HB.out.cell (World.block_lt_of_cell? w _ hx266_7)).trans hx266_7
         replace hx266_8 := (HB.out.cell (World.block_lt_of_cell? w _ hx266_8)).trans hx266_8
         replace p266 := eq_true p266
         replace q266 := eq_true q266
         go_wp2_with (first | ((with_reducible refine gate_callee (f := 6) rfl ?_); refine goesL_ (some 38) rfl rfl Try.func6 (by kernel_rfl) rfl #[.agg #[.int .i64 ((rd_T23 l0 x7_2).f0), .int .i64 ((rd_T23 l0 x7_2).f1), .int .i64 ((rd_T23 l0 x7_2).f2), .int .i64 ((rd_T23 l0 x7_2).f3), .int .i64 ((rd_T23 l0 x7_2).f4), .int .i64 ((rd_T23 l0 x7_2).f5), .int .i64 ((rd_T23 l0 x7_2).f6), .int .i64 ((rd_T23 l0 x7_2).f7), .int .i64 ((rd_T23 l0 x7_2).f8)]] rfl (by (try simp only [List.map_toArray, List.map_cons, List.map_nil]); first | done | rfl | (simp only [List.length_drop, List.length_take]; rfl)) ?_; (with_reducible refine (audit_Put.calls k2 ((rd_T23 l0 x7_2).f0) ((rd_T23 l0 x7_2).f1) ((rd_T23 l0 x7_2).f2) ((rd_T23 l0 x7_2).f3) ((rd_T23 l0 x7_2).f4) ((rd_T23 l0 x7_2).f5) ((rd_T23 l0 x7_2).f6) ((rd_T23 l0 x7_2).f7) ((rd_T23 l0 x7_2).f8) t267 t268 _ A10.out).mono ?_); rintro e w17 ⟨rfl, hb⟩; refine ⟨_, rfl, ?_⟩; have n0_ := Aside0.mk (below_step (by repeat (first | (with_reducible first | exact HB.out | apply below_alloc | apply pw_below_drewN | apply below_drew1) | exact HB.out)) hb); clear HB; have HB := n0_; clear n0_; (try clear hb); (try clear hb2); (try clear hk); (try clear hi); have p269 : 0 ≤ (x7_2 : Int) := of_decide_eq_true (by first | (with_reducible assumption) | assumption); have q269 : x7_2 < (l0.length : Int) := of_decide_eq_true (by first | (with_reducible assumption) | assumption); obtain ⟨ad269, e269, hx269_0, hx269_1, hx269_2, hx269_3, hx269_4, hx269_5, hx269_6, hx269_7, hx269_8⟩ := at_T23 HR0.out x7_2 p269 q269; obtain rfl : ad266 = ad269 := (by injection e269); replace hx269_0 := (HB.out.cell (World.block_lt_of_cell? w _ hx269_0)).trans hx269_0; replace hx269_1 := (HB.out.cell (World.block_lt_of_cell? w _ hx269_1)).trans hx269_1; replace hx269_2 := (HB.out.cell (World.block_lt_of_cell? w _ hx269_2)).trans hx269_2; replace hx269_3 := (HB.out.cell (World.block_lt_of_cell? w _ hx269_3)).trans hx269_3; replace hx269_4 := (HB.out.cell (World.block_lt_of_cell? w _ hx269_4)).trans hx269_4; replace hx269_5 := (HB.out.cell (World.block_lt_of_cell? w _ hx269_5)).trans hx269_5; replace hx269_6 := (HB.out.cell (World.block_lt_of_cell? w _ hx269_6)).trans hx269_6; replace hx269_7 := (HB.out.cell (World.block_lt_of_cell? w _ hx269_7)).trans hx269_7; replace hx269_8 := (HB.out.cell (World.block_lt_of_cell? w _ hx269_8)).trans hx269_8; replace p269 := eq_true p269; replace q269 := eq_true q269) | ((with_reducible refine gate_callee (f := 12) rfl ?_); refine goesL_ (some 46) rfl rfl Try.func12 (by kernel_rfl) rfl #[.agg #[.int .i64 ((rd_T23 l0 x7_2).f0), .int .i64 ((rd_T23 l0 x7_2).f1), .int .i64 ((rd_T23 l0 x7_2).f2), .int .i64 ((rd_T23 l0 x7_2).f3), .int .i64 ((rd_T23 l0 x7_2).f4), .int .i64 ((rd_T23 l0 x7_2).f5), .int .i64 ((rd_T23 l0 x7_2).f6), .int .i64 ((rd_T23 l0 x7_2).f7), .int .i64 ((rd_T23 l0 x7_2).f8)]] rfl (by (try simp only [List.map_toArray, List.map_cons, List.map_nil]); first | done | rfl | (simp only [List.length_drop, List.length_take]; rfl)) ?_; (with_reducible refine (audit_Right.calls k2 ((rd_T23 l0 x7_2).f0) ((rd_T23 l0 x7_2).f1) ((rd_T23 l0 x7_2).f2) ((rd_T23 l0 x7_2).f3) ((rd_T23 l0 x7_2).f4) ((rd_T23 l0 x7_2).f5) ((rd_T23 l0 x7_2).f6) ((rd_T23 l0 x7_2).f7) ((rd_T23 l0 x7_2).f8) t270 _ A11.out).mono ?_); rintro e w18 ⟨rfl, hb⟩; refine ⟨_, rfl, ?_⟩; have n0_ := Aside0.mk (below_step (by repeat (first | (with_reducible first | exact HB.out | apply below_alloc | apply pw_below_drewN | apply below_drew1) | exact HB.out)) hb); clear HB; have HB := n0_; clear n0_; (try clear hb); (try clear hb2); (try clear hk); (try clear hi)))
         go_roundg k2
         case measure => have := HJ2.out; have := HK2.out; omega
         case rel => exact ⟨(x5_2 ++ t267), (false), (wrap64 (x7_2 + 1)), (by first | rfl | (simp; done) | (simp [*]; done) | (simp [bne_nil_]; done)), (by first | rfl | (simp; done) | (simp [*]; done) | (simp [bne_nil_]; done)), (by first | rfl | (simp; done) | (simp [*]; done) | (simp [bne_nil_]; done)), H', ⟨by have := HJ2.out; have := HK2.out; omega⟩, ⟨by repeat (first | (with_reducible first | exact HB.out | apply below_alloc | apply pw_below_drewN | apply below_drew1) | exact HB.out)⟩⟩
      ·rw [if_neg c8] at H
       have c8b0 : decide (x7_2 < (l0.length : Int)) = false := decide_eq_false c8
       clear c8
       replace H := Option.bind_eq_some_iff.mp H
       obtain ⟨⟨t271, t272⟩, A190, H⟩ := H
       replace H : (if x6_2 = true then (if t272 = true then ((ref23_Same.f k2 l0 t271).bind fun t275 => (if t275 = true then (law23_AuditBack.j2 k2 a1 ((x5_2.size : Int) != (wrap64 (20 * (l0.length : Int))))) else (law23_AuditBack.j2 k2 a1 true))) else (law23_AuditBack.j2 k2 a1 true)) else (law23_AuditBack.j2 k2 a1 false)) = some r := H
       have A19 := Aside0.mk A190
       clear A190
       have HC20 := Aside0.mk H
       clear H
       go_upto_region 12 with (first | ((with_reducible refine gate_callee (f := 10) rfl ?_); refine goesL_ (some 57) rfl rfl Try.func10 (by kernel_rfl) rfl #[.string x5_2] rfl (by (try simp only [List.map_toArray, List.map_cons, List.map_nil]); first | done | rfl | (simp only [List.length_drop, List.length_take]; rfl)) ?_; (with_reducible refine (audit_All.calls k2 x5_2 t271 t272 _ A19.out).mono ?_); rintro e w21 ⟨v273, rfl, ho0, hb⟩; refine ⟨_, rfl, ?_⟩; have n0_ := Aside0.mk (Kd.R_lower ho0 (below_size (by repeat (first | (with_reducible first | exact HB.out | apply below_alloc | apply pw_below_drewN | apply below_drew1) | exact HB.out)))); have n1_ := Aside0.mk (below_step (by repeat (first | (with_reducible first | exact HB.out | apply below_alloc | apply pw_below_drewN | apply below_drew1) | exact HB.out)) hb); clear HB; have HO274 := n0_; have HB := n1_; clear n0_ n1_; (try clear hb); (try clear hb2); (try clear hk); (try clear hi); (try clear ho0)))
       (try simp only [Act.put, List.setIfInBounds_toArray, List.set_cons_zero, List.set_cons_succ])
       go_cut [78] (fun v78 wc => ∃ (kq : Nat) (x78_19 : Bool), v78 = .bool x78_19 ∧ Aside0 (law23_AuditBack.j2 kq a1 x78_19 = some r) ∧ Aside0 (kq ≤ k2) ∧ Aside0 (Below w.heap.size w wc))
       case first =>
        have H := HC20.out
        clear HC20
        by_cases c22 : x6_2 = true
        ·subst c22
         have H1 : (if t272 = true then ((ref23_Same.f k2 l0 t271).bind fun t275 => (if t275 = true then (law23_AuditBack.j2 k2 a1 ((x5_2.size : Int) != (wrap64 (20 * (l0.length : Int))))) else (law23_AuditBack.j2 k2 a1 true))) else (law23_AuditBack.j2 k2 a1 true)) = some r := by rw [if_pos rfl] at H; exact H
         clear H
         have H := H1
         clear H1
         by_cases c23 : t272 = true
         ·subst c23
          have H1 : ((ref23_Same.f k2 l0 t271).bind fun t275 => (if t275 = true then (law23_AuditBack.j2 k2 a1 ((x5_2.size : Int) != (wrap64 (20 * (l0.length : Int))))) else (law23_AuditBack.j2 k2 a1 true))) = some r := by rw [if_pos rfl] at H; exact H
          clear H
          have H := H1
          clear H1
          replace H := Option.bind_eq_some_iff.mp H
          obtain ⟨t275, A240, H⟩ := H
          replace H : (if t275 = true then (law23_AuditBack.j2 k2 a1 ((x5_2.size : Int) != (wrap64 (20 * (l0.length : Int))))) else (law23_AuditBack.j2 k2 a1 true)) = some r := H
          have A24 := Aside0.mk A240
          clear A240
          by_cases c25 : t275 = true
          ·subst c25
           have H1 : (law23_AuditBack.j2 k2 a1 ((x5_2.size : Int) != (wrap64 (20 * (l0.length : Int))))) = some r := by rw [if_pos rfl] at H; exact H
           clear H
           have H := H1
           clear H1
           have H' := Aside0.mk H
           clear H
           obtain ⟨Ao26, co26, eo26⟩ := Kd.R_slice HO274.out
           subst eo26
           go_wp2_with (first | (go_at_call 14; (with_reducible refine (ref23_Same.calls k2 _ _ l0 _ _ t271 true _ ?side1 ?side2 ?side3 ?side4 A24.out).mono ?_); (case side1 => repeat (first | exact (Kd.C_below HR0.out HB.out) | (with_reducible refine Kd.C_alloc ?_ _) | (with_reducible refine Kd.C_drewN ?_ _) | (with_reducible refine Kd.C_drew ?_))); (case side2 => exact HC0.out); (case side3 => repeat (first | exact (Kd.R_reads' HO274.out).2.2 | (with_reducible refine Kd.C_alloc ?_ _) | (with_reducible refine Kd.C_drewN ?_ _) | (with_reducible refine Kd.C_drew ?_))); (case side4 => exact (Kd.R_reads' HO274.out).2.1); rintro e w' ⟨rfl, ⟨nd, rfl⟩⟩))
           go_meet
           case rel => exact ⟨_, (((x5_2.size : Int) != (wrap64 (20 * (l0.length : Int))))), (by first | rfl | (simp; done) | (simp [*]; done) | (simp [bne_nil_]; done)), H', ⟨by have := HJ2.out; have := HK2.out; first | omega | exact Nat.le_refl _⟩, ⟨by repeat (first | (with_reducible first | exact HB.out | apply below_alloc | apply pw_below_drewN | apply below_drew1) | exact HB.out)⟩⟩
          ·replace c25 := Bool.eq_false_iff.mpr c25
           subst c25
           have H1 : (law23_AuditBack.j2 k2 a1 true) = some r := by rw [if_neg (show ¬ (false = true) by decide)] at H; exact H
           clear H
           have H := H1
           clear H1
           have H' := Aside0.mk H
           clear H
           obtain ⟨Ao27, co27, eo27⟩ := Kd.R_slice HO274.out
           subst eo27
           go_wp2_with (first | (go_at_call 14; (with_reducible refine (ref23_Same.calls k2 _ _ l0 _ _ t271 false _ ?side1 ?side2 ?side3 ?side4 A24.out).mono ?_); (case side1 => repeat (first | exact (Kd.C_below HR0.out HB.out) | (with_reducible refine Kd.C_alloc ?_ _) | (with_reducible refine Kd.C_drewN ?_ _) | (with_reducible refine Kd.C_drew ?_))); (case side2 => exact HC0.out); (case side3 => repeat (first | exact (Kd.R_reads' HO274.out).2.2 | (with_reducible refine Kd.C_alloc ?_ _) | (with_reducible refine Kd.C_drewN ?_ _) | (with_reducible refine Kd.C_drew ?_))); (case side4 => exact (Kd.R_reads' HO274.out).2.1); rintro e w' ⟨rfl, ⟨nd, rfl⟩⟩))
           go_meet
           case rel => exact ⟨_, (true), (by first | rfl | (simp; done) | (simp [*]; done) | (simp [bne_nil_]; done)), H', ⟨by have := HJ2.out; have := HK2.out; first | omega | exact Nat.le_refl _⟩, ⟨by repeat (first | (with_reducible first | exact HB.out | apply below_alloc | apply pw_below_drewN | apply below_drew1) | exact HB.out)⟩⟩
         ·replace c23 := Bool.eq_false_iff.mpr c23
          subst c23
          have H1 : (law23_AuditBack.j2 k2 a1 true) = some r := by rw [if_neg (show ¬ (false = true) by decide)] at H; exact H
          clear H
          have H := H1
          clear H1
          have H' := Aside0.mk H
          clear H
          go_wp2
          go_meet
          case rel => exact ⟨_, (true), (by first | rfl | (simp; done) | (simp [*]; done) | (simp [bne_nil_]; done)), H', ⟨by have := HJ2.out; have := HK2.out; first | omega | exact Nat.le_refl _⟩, ⟨by repeat (first | (with_reducible first | exact HB.out | apply below_alloc | apply pw_below_drewN | apply below_drew1) | exact HB.out)⟩⟩
        ·replace c22 := Bool.eq_false_iff.mpr c22
         subst c22
         have H1 : (law23_AuditBack.j2 k2 a1 false) = some r := by rw [if_neg (show ¬ (false = true) by decide)] at H; exact H
         clear H
         have H := H1
         clear H1
         have H' := Aside0.mk H
         clear H
         go_wp2
         go_meet
         case rel => exact ⟨_, (false), (by first | rfl | (simp; done) | (simp [*]; done) | (simp [bne_nil_]; done)), H', ⟨by have := HJ2.out; have := HK2.out; first | omega | exact Nat.le_refl _⟩, ⟨by repeat (first | (with_reducible first | exact HB.out | apply below_alloc | apply pw_below_drewN | apply below_drew1) | exact HB.out)⟩⟩
       case rest =>
        clear HC20
        try clear c1
        try clear c2
        try clear p2
        try clear q2
        try clear hx2
        try clear c4
        try clear c4b0
        try clear c4b1
        try clear c5
        try clear c6
        try clear p6
        try clear c8
        try clear c8b0
        try clear c9
        try clear c9b0
        try clear c10
        try clear c12
        try clear c12b0
        try clear c12b1
        try clear c12b2
        try clear c13
        try clear c13b0
        try clear c13b1
        try clear c13b2
        try clear c14
        try clear c22
        try clear c23
        try clear c25
        try clear p26
        try clear q26
        try clear hx26
        try clear hx266_0
        try clear hx266_1
        try clear hx266_2
        try clear hx266_3
        try clear hx266_4
        try clear hx266_5
        try clear hx266_6
        try clear hx266_7
        try clear hx266_8
        try clear hx269_0
        try clear hx269_1
        try clear hx269_2
        try clear hx269_3
        try clear hx269_4
        try clear hx269_5
        try clear hx269_6
        try clear hx269_7
        try clear hx269_8
        try clear p2
        try clear p266
        try clear p269
        try clear q266
        try clear q269
        obtain ⟨kq, x78_19, rfl, HA, HJ19, HB⟩ := hcut
        cases kq with
        | zero => exact absurd HA.out (by simp [law23_AuditBack.j2])
        | succ kj19 =>
         have H := HA.out
         clear HA
         simp only [law23_AuditBack.j2] at H
         by_cases c28 : x78_19 = true
         ·subst c28
          have H1 : (none) = some r := by rw [if_pos rfl] at H; exact H
          clear H
          have H := H1
          clear H1
          exact absurd H (by simp)
         ·replace c28 := Bool.eq_false_iff.mpr c28
          subst c28
          have H1 : ((audit_All.f kj19 a1).bind fun bt276 => (law23_AuditBack.l1 kj19 a1 bt276.1 bt276.2 (⟨#[]⟩ : ByteArray) 0)) = some r := by rw [if_neg (show ¬ (false = true) by decide)] at H; exact H
          clear H
          have H := H1
          clear H1
          replace H := Option.bind_eq_some_iff.mp H
          obtain ⟨⟨t276, t277⟩, A290, H⟩ := H
          replace H : (law23_AuditBack.l1 kj19 a1 t276 t277 (⟨#[]⟩ : ByteArray) 0) = some r := H
          have A29 := Aside0.mk A290
          clear A290
          have H' := Aside0.mk H
          clear H
          go_wp2_with (first | ((with_reducible refine gate_callee (f := 10) rfl ?_); refine goesL_ (some 81) rfl rfl Try.func10 (by kernel_rfl) rfl #[.string a1] rfl (by (try simp only [List.map_toArray, List.map_cons, List.map_nil]); first | done | rfl | (simp only [List.length_drop, List.length_take]; rfl)) ?_; (with_reducible refine (audit_All.calls kj19 a1 t276 t277 _ A29.out).mono ?_); rintro e w30 ⟨v278, rfl, ho0, hb⟩; refine ⟨_, rfl, ?_⟩; have n0_ := Aside0.mk (Kd.R_lower ho0 (below_size (by repeat (first | (with_reducible first | exact HB.out | apply below_alloc | apply pw_below_drewN | apply below_drew1) | exact HB.out)))); have n1_ := Aside0.mk (below_step (by repeat (first | (with_reducible first | exact HB.out | apply below_alloc | apply pw_below_drewN | apply below_drew1) | exact HB.out)) hb); clear HB; have HO279 := n0_; have HB := n1_; clear n0_ n1_; (try clear hb); (try clear hb2); (try clear hk); (try clear hi); (try clear ho0)))
          go_loopg [14, 15] kj19 (fun kq v14 v15 w' => ∃ (x14_4 : ByteArray) (x15_4 : Int), v14 = .string x14_4 ∧ v15 = .int .i64 x15_4 ∧ Aside0 (law23_AuditBack.l1 kq a1 t276 t277 x14_4 x15_4 = some r) ∧ Aside0 (kq ≤ kj19) ∧ Aside0 (Kd.R k23 23 w' w.heap.size (fun _ => True) v278 t276) ∧ Aside0 (Below w.heap.size w w'))
          case atStart => exact ⟨((⟨#[]⟩ : ByteArray)), (0), (by first | rfl | (simp; done) | (simp [*]; done) | (simp [bne_nil_]; done)), (by first | rfl | (simp; done) | (simp [*]; done) | (simp [bne_nil_]; done)), H', ⟨Nat.le_refl _⟩, ⟨by (with_reducible repeat (first | apply Kd.R_alloc | apply Kd.R_drewN | apply Kd.R_drew)); exact HO279.out⟩, ⟨by repeat (first | (with_reducible first | exact HB.out | apply below_alloc | apply pw_below_drewN | apply below_drew1) | exact HB.out)⟩⟩
          case round =>
           clear H'
           try clear c1
           try clear c2
           try clear p2
           try clear q2
           try clear hx2
           try clear c4
           try clear c4b0
           try clear c4b1
           try clear c5
           try clear c6
           try clear p6
           try clear c8
           try clear c8b0
           try clear c9
           try clear c9b0
           try clear c10
           try clear c12
           try clear c12b0
           try clear c12b1
           try clear c12b2
           try clear c13
           try clear c13b0
           try clear c13b1
           try clear c13b2
           try clear c14
           try clear c22
           try clear c23
           try clear c25
           try clear p26
           try clear q26
           try clear hx26
           try clear c28
           try clear hx266_0
           try clear hx266_1
           try clear hx266_2
           try clear hx266_3
           try clear hx266_4
           try clear hx266_5
           try clear hx266_6
           try clear hx266_7
           try clear hx266_8
           try clear hx269_0
           try clear hx269_1
           try clear hx269_2
           try clear hx269_3
           try clear hx269_4
           try clear hx269_5
           try clear hx269_6
           try clear hx269_7
           try clear hx269_8
           try clear p2
           try clear p26
           try clear p266
           try clear p269
           try clear p6
           try clear q2
           try clear q26
           try clear q266
           try clear q269
           obtain ⟨x14_4, x15_4, rfl, rfl, HA, HK4, HO_12, HB⟩ := hrel
           cases gk with
           | zero => exact absurd HA.out (by simp [law23_AuditBack.l1])
           | succ k4 =>
            have H := HA.out
            clear HA
            simp only [law23_AuditBack.l1] at H
            by_cases c31 : x15_4 < (t276.length : Int)
            ·rw [if_pos c31] at H
             have c31b0 : decide (x15_4 < (t276.length : Int)) = true := decide_eq_true c31
             clear c31
             by_cases c32 : 0 ≤ x15_4
             rotate_left
             ·rw [if_neg c32] at H
              exact absurd H (by simp)
             rw [if_pos c32] at H
             have c32b0 : decide (0 ≤ x15_4) = true := decide_eq_true c32
             clear c32
             replace H := Option.bind_eq_some_iff.mp H
             obtain ⟨⟨t281, t282⟩, A330, H⟩ := H
             replace H : (if x14_4.size + t281.size ≤ 9223372036854775807 then (law23_AuditBack.l1 k4 a1 t276 t277 (x14_4 ++ t281) (wrap64 (x15_4 + 1))) else (none)) = some r := H
             have A33 := Aside0.mk A330
             clear A330
             by_cases c34 : x14_4.size + t281.size ≤ 9223372036854775807
             rotate_left
             ·rw [if_neg c34] at H
              exact absurd H (by simp)
             rw [if_pos c34] at H
             have c34b0 := eq_true c34
             have c34b1 : decide (x14_4.size + t281.size ≤ 9223372036854775807) = true := decide_eq_true c34
             try have c34b2 : (9223372036854775807 < x14_4.size + t281.size) = False := eq_false (Nat.not_lt.2 c34)
             have H' := Aside0.mk H
             clear H
             obtain ⟨Ao35, co35, eo35⟩ := Kd.R_slice HO_12.out
             subst eo35
             have p280 : 0 ≤ (x15_4 : Int) := of_decide_eq_true (by first | (with_reducible assumption) | assumption)
             have q280 : x15_4 < (t276.length : Int) := of_decide_eq_true (by first | (with_reducible assumption) | assumption)
             obtain ⟨ad280, e280, hx280_0, hx280_1, hx280_2, hx280_3, hx280_4, hx280_5, hx280_6, hx280_7, hx280_8⟩ := at_T23 (Kd.R_reads' HO_12.out).2.2 x15_4 p280 q280
             cases e280
             replace p280 := eq_true p280
             replace q280 := eq_true q280
             go_wp2_with (first | ((with_reducible refine gate_callee (f := 6) rfl ?_); refine goesL_ (some 95) rfl rfl Try.func6 (by kernel_rfl) rfl #[.agg #[.int .i64 ((rd_T23 t276 x15_4).f0), .int .i64 ((rd_T23 t276 x15_4).f1), .int .i64 ((rd_T23 t276 x15_4).f2), .int .i64 ((rd_T23 t276 x15_4).f3), .int .i64 ((rd_T23 t276 x15_4).f4), .int .i64 ((rd_T23 t276 x15_4).f5), .int .i64 ((rd_T23 t276 x15_4).f6), .int .i64 ((rd_T23 t276 x15_4).f7), .int .i64 ((rd_T23 t276 x15_4).f8)]] rfl (by (try simp only [List.map_toArray, List.map_cons, List.map_nil]); first | done | rfl | (simp only [List.length_drop, List.length_take]; rfl)) ?_; (with_reducible refine (audit_Put.calls k4 ((rd_T23 t276 x15_4).f0) ((rd_T23 t276 x15_4).f1) ((rd_T23 t276 x15_4).f2) ((rd_T23 t276 x15_4).f3) ((rd_T23 t276 x15_4).f4) ((rd_T23 t276 x15_4).f5) ((rd_T23 t276 x15_4).f6) ((rd_T23 t276 x15_4).f7) ((rd_T23 t276 x15_4).f8) t281 t282 _ A33.out).mono ?_); rintro e w36 ⟨rfl, hb⟩; refine ⟨_, rfl, ?_⟩; have n0_ := Aside0.mk (Kd.R_below (by (with_reducible repeat (first | apply Kd.R_alloc | apply Kd.R_drewN | apply Kd.R_drew)); exact HO_12.out) hb); have n1_ := Aside0.mk (below_step (by repeat (first | (with_reducible first | exact HB.out | apply below_alloc | apply pw_below_drewN | apply below_drew1) | exact HB.out)) hb); clear HO_12; clear HB; have HO_12 := n0_; have HB := n1_; clear n0_ n1_; (try clear hb); (try clear hb2); (try clear hk); (try clear hi)))
             go_roundg k4
             case measure => have := HJ2.out; have := HK2.out; have := HJ19.out; have := HK4.out; omega
             case rel => exact ⟨(x14_4 ++ t281), (wrap64 (x15_4 + 1)), (by first | rfl | (simp; done) | (simp [*]; done) | (simp [bne_nil_]; done)), (by first | rfl | (simp; done) | (simp [*]; done) | (simp [bne_nil_]; done)), H', ⟨by have := HJ2.out; have := HK2.out; have := HJ19.out; have := HK4.out; omega⟩, ⟨by (with_reducible repeat (first | apply Kd.R_alloc | apply Kd.R_drewN | apply Kd.R_drew)); exact HO_12.out⟩, ⟨by repeat (first | (with_reducible first | exact HB.out | apply below_alloc | apply pw_below_drewN | apply below_drew1) | exact HB.out)⟩⟩
            ·rw [if_neg c31] at H
             have c31b0 : decide (x15_4 < (t276.length : Int)) = false := decide_eq_false c31
             clear c31
             replace H := Option.bind_eq_some_iff.mp H
             obtain ⟨t283, A370, H⟩ := H
             replace H : (if t283 = true then (if t277 = true then (if x14_4.toList = a1.toList then (some true) else (none)) else (some ((t276.length : Int) == 0))) else (none)) = some r := H
             have A37 := Aside0.mk A370
             clear A370
             by_cases c38 : t283 = true
             ·subst c38
              have H1 : (if t277 = true then (if x14_4.toList = a1.toList then (some true) else (none)) else (some ((t276.length : Int) == 0))) = some r := by rw [if_pos rfl] at H; exact H
              clear H
              have H := H1
              clear H1
              by_cases c39 : t277 = true
              ·subst c39
               have H1 : (if x14_4.toList = a1.toList then (some true) else (none)) = some r := by rw [if_pos rfl] at H; exact H
               clear H
               have H := H1
               clear H1
               by_cases c40 : x14_4.toList = a1.toList
               rotate_left
               ·rw [if_neg c40] at H
                exact absurd H (by simp)
               rw [if_pos c40] at H
               have c40b0 : (x14_4.toList == a1.toList) = true := beq_iff_eq.mpr c40
               have c40b1 : (x14_4.toList != a1.toList) = false := bne_eq_false_iff_eq.mpr c40
               clear c40
               obtain rfl := Option.some.inj H
               obtain ⟨Ao41, co41, eo41⟩ := Kd.R_slice HO_12.out
               subst eo41
               go_wp2_with (first | ((with_reducible refine gate_callee (f := 5) rfl ?_); refine goesL_ (some 101) rfl rfl Try.func5 (by kernel_rfl) rfl #[] rfl (by (try simp only [List.map_toArray, List.map_cons, List.map_nil]); first | done | rfl | (simp only [List.length_drop, List.length_take]; rfl)) ?_; (with_reducible refine (law23_awake.calls k4  true _ A37.out).mono ?_); rintro e w42 ⟨rfl, hb⟩; refine ⟨_, rfl, ?_⟩; have n0_ := Aside0.mk (Kd.R_below (by (with_reducible repeat (first | apply Kd.R_alloc | apply Kd.R_drewN | apply Kd.R_drew)); exact HO_12.out) hb); have n1_ := Aside0.mk (below_step (by repeat (first | (with_reducible first | exact HB.out | apply below_alloc | apply pw_below_drewN | apply below_drew1) | exact HB.out)) hb); clear HO_12; clear HB; have HO_12 := n0_; have HB := n1_; clear n0_ n1_; (try clear hb); (try clear hb2); (try clear hk); (try clear hi)))
               go_ret
               exact ⟨by first | rfl | (simp [errW_none, errW_some] <;> rfl) | (simp [*, errW_none, errW_some] <;> rfl), by repeat (first | (with_reducible first | exact HB.out | apply below_alloc | apply pw_below_drewN | apply below_drew1) | exact HB.out)⟩
              ·replace c39 := Bool.eq_false_iff.mpr c39
               subst c39
               have H1 : (some ((t276.length : Int) == 0)) = some r := by rw [if_neg (show ¬ (false = true) by decide)] at H; exact H
               clear H
               have H := H1
               clear H1
               obtain rfl := Option.some.inj H
               obtain ⟨Ao43, co43, eo43⟩ := Kd.R_slice HO_12.out
               subst eo43
               go_wp2_with (first | ((with_reducible refine gate_callee (f := 5) rfl ?_); refine goesL_ (some 101) rfl rfl Try.func5 (by kernel_rfl) rfl #[] rfl (by (try simp only [List.map_toArray, List.map_cons, List.map_nil]); first | done | rfl | (simp only [List.length_drop, List.length_take]; rfl)) ?_; (with_reducible refine (law23_awake.calls k4  true _ A37.out).mono ?_); rintro e w44 ⟨rfl, hb⟩; refine ⟨_, rfl, ?_⟩; have n0_ := Aside0.mk (Kd.R_below (by (with_reducible repeat (first | apply Kd.R_alloc | apply Kd.R_drewN | apply Kd.R_drew)); exact HO_12.out) hb); have n1_ := Aside0.mk (below_step (by repeat (first | (with_reducible first | exact HB.out | apply below_alloc | apply pw_below_drewN | apply below_drew1) | exact HB.out)) hb); clear HO_12; clear HB; have HO_12 := n0_; have HB := n1_; clear n0_ n1_; (try clear hb); (try clear hb2); (try clear hk); (try clear hi)))
               go_ret
               exact ⟨by first | rfl | (simp [errW_none, errW_some] <;> rfl) | (simp [*, errW_none, errW_some] <;> rfl), by repeat (first | (with_reducible first | exact HB.out | apply below_alloc | apply pw_below_drewN | apply below_drew1) | exact HB.out)⟩
             ·replace c38 := Bool.eq_false_iff.mpr c38
              subst c38
              have H1 : (none) = some r := by rw [if_neg (show ¬ (false = true) by decide)] at H; exact H
              clear H
              have H := H1
              clear H1
              exact absurd H (by simp)

end Go.Proofs.Ytimljcnmochmnaa.P

-- Written by a program of this session (wip/mkprint.py). Not trusted: Lean checks it.
import Derived.Test.YtfapfpkijeaapaaP0
namespace Go.Proofs.Ytfapfpkijeaapaa.P
open Go.RowKit Go.Proofs.YtfapfpkijeaapaaW.PrintWords Go.Proofs.YtfapfpkijeaapaaW.PrintLast Go.Proofs.YtfapfpkijeaapaaW.PrintMore
attribute [local go_sem] max2_int min2_int max_two min_two max_three min_three max_four min_four   -- for this text's walks alone
set_option linter.unusedVariables false
set_option linter.unusedSimpArgs false

/-! ### ref27_Bytes: function 17 -/
def ref27_Bytes.l0 : Nat → List (S40) → Int → Int → ByteArray → Int → Option (ByteArray)
 | 0, _, _, _, _, _ => none
 | k + 1, x0, x1, x2, x7, x8 => if x8 < (x0.length : Int) then (if 0 ≤ x8 then (if ((rd_T40 x0 x8).f0) = x1 then (if ((rd_T40 x0 x8).f1) = x2 then (if x7.size + (((rd_T40 x0 x8).f2).size) ≤ 9223372036854775807 then (ref27_Bytes.l0 k x0 x1 x2 (x7 ++ ((rd_T40 x0 x8).f2)) (wrap64 (x8 + 1))) else (none)) else (ref27_Bytes.l0 k x0 x1 x2 x7 (wrap64 (x8 + 1)))) else (ref27_Bytes.l0 k x0 x1 x2 x7 (wrap64 (x8 + 1)))) else (none)) else (some x7)
def ref27_Bytes.f (k : Nat) (l0 : List (S40)) (a1 : Int) (a2 : Int) : Option (ByteArray) := ref27_Bytes.l0 k l0 a1 a2 (⟨#[]⟩ : ByteArray) 0
theorem ref27_Bytes.mono_l : ∀ k, (∀ y0 y1 y2 y3 y4, LeO (ref27_Bytes.l0 k y0 y1 y2 y3 y4) (ref27_Bytes.l0 (k + 1) y0 y1 y2 y3 y4))
 | 0 => fun _ _ _ _ _ r h => by simp [ref27_Bytes.l0] at h
 | k + 1 => by
  have ih0 := ref27_Bytes.mono_l k
  ·intro y0 y1 y2 y3 y4
   unfold ref27_Bytes.l0
   repeat' first
   | (with_reducible exact ih0 _ _ _ _ _)
   | (with_reducible exact LeO.refl _)
   | (with_reducible exact LeO.none _)
   | (with_reducible refine LeO.ite ?_ ?_)
   | (with_reducible refine LeO.bind ?_ (fun _ => ?_))
   | exact ih0 _ _ _ _ _
   | exact LeO.none _
   | refine LeO.ite ?_ ?_
   | refine LeO.bind ?_ (fun _ => ?_)
theorem ref27_Bytes.mono : ∀ a0 a1 a2 k, LeO (ref27_Bytes.f k a0 a1 a2) (ref27_Bytes.f (k + 1) a0 a1 a2) := by
 intro a0 a1 a2 k
 have ih0 := ref27_Bytes.mono_l k
 unfold ref27_Bytes.f
 repeat' first
  | (with_reducible exact ih0 _ _ _ _ _)
  | (with_reducible exact LeO.refl _)
  | (with_reducible exact LeO.none _)
  | (with_reducible refine LeO.ite ?_ ?_)
  | (with_reducible refine LeO.bind ?_ (fun _ => ?_))
  | exact ih0 _ _ _ _ _
  | exact LeO.none _
  | refine LeO.ite ?_ ?_
  | refine LeO.bind ?_ (fun _ => ?_)
set_option maxHeartbeats 8000000 in
set_option maxRecDepth 100000 in
theorem ref27_Bytes.calls (k : Nat) (A0 : Option Addr) (c0 : Nat) (l0 : List (S40)) (a1 : Int) (a2 : Int) (r : ByteArray) (w : World) (hr0 : Kd.C k40 w A0 l0.length l0) (hc0 : l0.length ≤ c0) (h : ref27_Bytes.f k l0 a1 a2 = some r) :
 Calls Try.prog 17 #[.slice A0 l0.length c0, .int .i64 a1, .int .i64 a2] w fun e w' => e = .returned (.string r) ∧ Drawn0 w w' := by
 have HR0 := Aside0.mk hr0
 have HC0 := Aside0.mk hc0
 clear hr0 hc0
 have H : (ref27_Bytes.l0 k l0 a1 a2 (⟨#[]⟩ : ByteArray) 0) = some r := h
 clear h
 have H' := Aside0.mk H
 clear H
 go_enter Try.func17, Try.ntmps17
 go_wp2
 go_loopg [7, 8] k (fun kq v7 v8 w' => ∃ (x7_1 : ByteArray) (x8_1 : Int), v7 = .string x7_1 ∧ v8 = .int .i64 x8_1 ∧ Aside0 (ref27_Bytes.l0 kq l0 a1 a2 x7_1 x8_1 = some r) ∧ Aside0 (kq ≤ k) ∧ Drawn0 w w')
 case atStart => exact ⟨((⟨#[]⟩ : ByteArray)), (0), (by first | rfl | (simp; done) | (simp [*]; done) | (simp [bne_nil_]; done)), (by first | rfl | (simp; done) | (simp [*]; done) | (simp [bne_nil_]; done)), H', ⟨Nat.le_refl _⟩, by repeat (first | exact Drawn0.refl _ | apply Drawn0.step)⟩
 case round =>
  clear H'
  try clear c1
  try clear p2
  obtain ⟨x7_1, x8_1, rfl, rfl, HA, HK1, ⟨m1, rfl⟩⟩ := hrel
  cases gk with
  | zero => exact absurd HA.out (by simp [ref27_Bytes.l0])
  | succ k1 =>
   have H := HA.out
   clear HA
   simp only [ref27_Bytes.l0] at H
   by_cases c4 : x8_1 < (l0.length : Int)
   ·rw [if_pos c4] at H
    have c4b0 : decide (x8_1 < (l0.length : Int)) = true := zW c4
    clear c4
    by_cases c5 : 0 ≤ x8_1
    rotate_left
    ·rw [if_neg c5] at H
     exact absurd H (by simp)
    rw [if_pos c5] at H
    have c5b0 : decide (0 ≤ x8_1) = true := zW c5
    clear c5
    by_cases c6 : ((rd_T40 l0 x8_1).f0) = a1
    ·rw [if_pos c6] at H
     have c6b0 : (((rd_T40 l0 x8_1).f0) == a1) = true := beq_iff_eq.mpr c6
     have c6b1 : (((rd_T40 l0 x8_1).f0) != a1) = false := bne_eq_false_iff_eq.mpr c6
     clear c6
     by_cases c7 : ((rd_T40 l0 x8_1).f1) = a2
     ·rw [if_pos c7] at H
      have c7b0 : (((rd_T40 l0 x8_1).f1) == a2) = true := beq_iff_eq.mpr c7
      have c7b1 : (((rd_T40 l0 x8_1).f1) != a2) = false := bne_eq_false_iff_eq.mpr c7
      clear c7
      by_cases c8 : x7_1.size + (((rd_T40 l0 x8_1).f2).size) ≤ 9223372036854775807
      rotate_left
      ·rw [if_neg c8] at H
       exact absurd H (by simp)
      rw [if_pos c8] at H
      have c8b0 := eq_true c8
      have c8b1 : decide (x7_1.size + (((rd_T40 l0 x8_1).f2).size) ≤ 9223372036854775807) = true := zW c8
      try have c8b2 : (9223372036854775807 < x7_1.size + (((rd_T40 l0 x8_1).f2).size)) = False := eq_false (Nat.not_lt.2 c8)
      have H' := Aside0.mk H
      clear H
      have p265 : 0 ≤ (x8_1 : Int) := zV (by first | (with_reducible assumption) | assumption)
      have q265 : x8_1 < (l0.length : Int) := zV (by first | (with_reducible assumption) | assumption)
      obtain ⟨ad265, e265, hx265_0, hx265_1, hx265_2⟩ := at_T40 HR0.out x8_1 p265 q265
      cases e265
      replace p265 := eq_true p265
      replace q265 := eq_true q265
      have p266 : 0 ≤ (x8_1 : Int) := zV (by first | (with_reducible assumption) | assumption)
      have q266 : x8_1 < (l0.length : Int) := zV (by first | (with_reducible assumption) | assumption)
      obtain ⟨ad266, e266, hx266_0, hx266_1, hx266_2⟩ := at_T40 HR0.out x8_1 p266 q266
      obtain rfl : ad265 = ad266 := (by injection e266)
      replace p266 := eq_true p266
      replace q266 := eq_true q266
      have p267 : 0 ≤ (x8_1 : Int) := zV (by first | (with_reducible assumption) | assumption)
      have q267 : x8_1 < (l0.length : Int) := zV (by first | (with_reducible assumption) | assumption)
      obtain ⟨ad267, e267, hx267_0, hx267_1, hx267_2⟩ := at_T40 HR0.out x8_1 p267 q267
      obtain rfl : ad265 = ad267 := (by injection e267)
      replace p267 := eq_true p267
      replace q267 := eq_true q267
      go_wp2
      go_roundg k1
      case measure => have := HK1.out; omega
      case rel => exact ⟨(x7_1 ++ ((rd_T40 l0 x8_1).f2)), (wrap64 (x8_1 + 1)), (by first | rfl | (simp; done) | (simp [*]; done) | (simp [bne_nil_]; done)), (by first | rfl | (simp; done) | (simp [*]; done) | (simp [bne_nil_]; done)), H', ⟨by have := HK1.out; omega⟩, by repeat (first | exact Drawn0.refl _ | apply Drawn0.step)⟩
     ·rw [if_neg c7] at H
      have c7b0 : (((rd_T40 l0 x8_1).f1) == a2) = false := beq_eq_false_iff_ne.mpr c7
      have c7b1 : (((rd_T40 l0 x8_1).f1) != a2) = true := bne_iff_ne.mpr c7
      have H' := Aside0.mk H
      clear H
      have p265 : 0 ≤ (x8_1 : Int) := zV (by first | (with_reducible assumption) | assumption)
      have q265 : x8_1 < (l0.length : Int) := zV (by first | (with_reducible assumption) | assumption)
      obtain ⟨ad265, e265, hx265_0, hx265_1, hx265_2⟩ := at_T40 HR0.out x8_1 p265 q265
      cases e265
      replace p265 := eq_true p265
      replace q265 := eq_true q265
      have p266 : 0 ≤ (x8_1 : Int) := zV (by first | (with_reducible assumption) | assumption)
      have q266 : x8_1 < (l0.length : Int) := zV (by first | (with_reducible assumption) | assumption)
      obtain ⟨ad266, e266, hx266_0, hx266_1, hx266_2⟩ := at_T40 HR0.out x8_1 p266 q266
      obtain rfl : ad265 = ad266 := (by injection e266)
      replace p266 := eq_true p266
      replace q266 := eq_true q266
      go_wp2
      go_roundg k1
      case measure => have := HK1.out; omega
      case rel => exact ⟨(x7_1), (wrap64 (x8_1 + 1)), (by first | rfl | (simp; done) | (simp [*]; done) | (simp [bne_nil_]; done)), (by first | rfl | (simp; done) | (simp [*]; done) | (simp [bne_nil_]; done)), H', ⟨by have := HK1.out; omega⟩, by repeat (first | exact Drawn0.refl _ | apply Drawn0.step)⟩
    ·rw [if_neg c6] at H
     have c6b0 : (((rd_T40 l0 x8_1).f0) == a1) = false := beq_eq_false_iff_ne.mpr c6
     have c6b1 : (((rd_T40 l0 x8_1).f0) != a1) = true := bne_iff_ne.mpr c6
     have H' := Aside0.mk H
     clear H
     have p265 : 0 ≤ (x8_1 : Int) := zV (by first | (with_reducible assumption) | assumption)
     have q265 : x8_1 < (l0.length : Int) := zV (by first | (with_reducible assumption) | assumption)
     obtain ⟨ad265, e265, hx265_0, hx265_1, hx265_2⟩ := at_T40 HR0.out x8_1 p265 q265
     cases e265
     replace p265 := eq_true p265
     replace q265 := eq_true q265
     go_wp2
     go_roundg k1
     case measure => have := HK1.out; omega
     case rel => exact ⟨(x7_1), (wrap64 (x8_1 + 1)), (by first | rfl | (simp; done) | (simp [*]; done) | (simp [bne_nil_]; done)), (by first | rfl | (simp; done) | (simp [*]; done) | (simp [bne_nil_]; done)), H', ⟨by have := HK1.out; omega⟩, by repeat (first | exact Drawn0.refl _ | apply Drawn0.step)⟩
   ·rw [if_neg c4] at H
    have c4b0 : decide (x8_1 < (l0.length : Int)) = false := decide_eq_false c4
    clear c4
    obtain rfl := Option.some.inj H
    go_wp2
    go_ret
    exact ⟨by first | rfl | (simp; done) | (simp [*]; done), by repeat (first | exact Drawn0.refl _ | apply Drawn0.step)⟩

/-! ### ref01_Get: function 53 -/
def ref01_Get.f (a0 : ByteArray) (a1 : Int) : Option (Int × Bool) := if a1 < 0 then (some (0, false)) else (if a1 ≥ (a0.size : Int) then (some (0, false)) else (if (wrap64 ((a0.size : Int) - a1)) < 2 then (some (0, false)) else (if 0 ≤ a1 then (if a1 < (a0.size : Int) then (if 0 ≤ (wrap64 (a1 + 1)) then (if (wrap64 (a1 + 1)) < (a0.size : Int) then (some (wrap64 ((wrap64 (256 * (wrap64 (bt a0 a1)))) + (wrap64 (bt a0 (wrap64 (a1 + 1))))), true)) else (none)) else (none)) else (none)) else (none))))
set_option maxHeartbeats 8000000 in
set_option maxRecDepth 100000 in
theorem ref01_Get.calls (a0 : ByteArray) (a1 : Int) (r1 : Int) (r2 : Bool) (w : World) (h : ref01_Get.f a0 a1 = some (r1, r2)) :
 Calls Try.prog 53 #[.string a0, .int .i64 a1] w fun e w' => e = .returned (.tuple #[.int .i64 r1, .bool r2]) ∧ Drawn0 w w' := by
 have H : (if a1 < 0 then (some (0, false)) else (if a1 ≥ (a0.size : Int) then (some (0, false)) else (if (wrap64 ((a0.size : Int) - a1)) < 2 then (some (0, false)) else (if 0 ≤ a1 then (if a1 < (a0.size : Int) then (if 0 ≤ (wrap64 (a1 + 1)) then (if (wrap64 (a1 + 1)) < (a0.size : Int) then (some (wrap64 ((wrap64 (256 * (wrap64 (bt a0 a1)))) + (wrap64 (bt a0 (wrap64 (a1 + 1))))), true)) else (none)) else (none)) else (none)) else (none))))) = some (r1, r2) := h
 clear h
 by_cases c3 : a1 < 0
 ·rw [if_pos c3] at H
  have c3b0 : decide (a1 < 0) = true := zW c3
  clear c3
  simp only [Option.some.injEq, Prod.mk.injEq] at H
  obtain ⟨rfl, rfl⟩ := H
  go_enter Try.func53, Try.ntmps53
  go_wp2
  repeat (go_quiet (fail); try go_wp2)
  go_ret2
  exact ⟨by first | rfl | (simp; done) | (simp [*]; done), by repeat (first | exact Drawn0.refl _ | apply Drawn0.step)⟩
 ·rw [if_neg c3] at H
  have c3b0 : decide (a1 < 0) = false := decide_eq_false c3
  clear c3
  by_cases c4 : a1 ≥ (a0.size : Int)
  ·rw [if_pos c4] at H
   have c4b0 : decide ((a0.size : Int) ≤ a1) = true := zW c4
   clear c4
   simp only [Option.some.injEq, Prod.mk.injEq] at H
   obtain ⟨rfl, rfl⟩ := H
   go_enter Try.func53, Try.ntmps53
   go_wp2
   repeat (go_quiet (fail); try go_wp2)
   go_ret2
   exact ⟨by first | rfl | (simp; done) | (simp [*]; done), by repeat (first | exact Drawn0.refl _ | apply Drawn0.step)⟩
  ·rw [if_neg c4] at H
   have c4b0 : decide ((a0.size : Int) ≤ a1) = false := decide_eq_false c4
   clear c4
   by_cases c5 : (wrap64 ((a0.size : Int) - a1)) < 2
   ·rw [if_pos c5] at H
    have c5b0 : decide ((wrap64 ((a0.size : Int) - a1)) < 2) = true := zW c5
    clear c5
    simp only [Option.some.injEq, Prod.mk.injEq] at H
    obtain ⟨rfl, rfl⟩ := H
    go_enter Try.func53, Try.ntmps53
    go_wp2
    repeat (go_quiet (fail); try go_wp2)
    go_ret2
    exact ⟨by first | rfl | (simp; done) | (simp [*]; done), by repeat (first | exact Drawn0.refl _ | apply Drawn0.step)⟩
   ·rw [if_neg c5] at H
    have c5b0 : decide ((wrap64 ((a0.size : Int) - a1)) < 2) = false := decide_eq_false c5
    clear c5
    by_cases c6 : 0 ≤ a1
    rotate_left
    ·rw [if_neg c6] at H
     exact absurd H (by simp)

    rw [if_pos c6] at H
    have c6b0 : decide (0 ≤ a1) = true := zW c6
    clear c6
    by_cases c7 : a1 < (a0.size : Int)
    rotate_left
    ·rw [if_neg c7] at H
     exact absurd H (by simp)
    rw [if_pos c7] at H
    have c7b0 : decide (a1 < (a0.size : Int)) = true := zW c7
    clear c7
    obtain ⟨ji9, hji9⟩ : ∃ j_ : Int, (wrap64 (a1 + 1)) = j_ := ⟨_, rfl⟩
    replace H : (if 0 ≤ (ji9) then (if (ji9) < (a0.size : Int) then (some (wrap64 ((wrap64 (256 * (wrap64 (bt a0 a1)))) + (wrap64 (bt a0 (ji9)))), true)) else (none)) else (none)) = some (r1, r2) := by first | (rw [hji9] at H; exact H) | (simp only [hji9] at H ⊢; exact H)
    have hji9w : (IntKind.i64.wrap (a1 + 1)) = ji9 := (i64_w _).trans hji9
    by_cases c10 : 0 ≤ (ji9)
    rotate_left
    ·rw [if_neg c10] at H
     exact absurd H (by simp)
    rw [if_pos c10] at H
    have c10b0 : decide (0 ≤ (ji9)) = true := zW c10
    clear c10
    by_cases c11 : (ji9) < (a0.size : Int)
    rotate_left
    ·rw [if_neg c11] at H
     exact absurd H (by simp)
    rw [if_pos c11] at H
    have c11b0 : decide ((ji9) < (a0.size : Int)) = true := zW c11
    clear c11
    simp only [Option.some.injEq, Prod.mk.injEq] at H
    obtain ⟨rfl, rfl⟩ := H
    have p8 : 0 ≤ (a1 : Int) := zV (by first | (with_reducible assumption) | assumption)
    have q8 : a1 < (a0.size : Int) := zV (by first | (with_reducible assumption) | assumption)
    have hx8 := bt_at a0 a1
    replace p8 := eq_true p8
    replace q8 := eq_true q8
    have p12 : 0 ≤ ((ji9) : Int) := zV (by first | (with_reducible assumption) | assumption)
    have q12 : (ji9) < (a0.size : Int) := zV (by first | (with_reducible assumption) | assumption)
    have hx12 := bt_at a0 (ji9)
    replace p12 := eq_true p12
    replace q12 := eq_true q12
    go_enter Try.func53, Try.ntmps53
    go_wp2
    repeat (go_quiet (fail); try go_wp2)
    go_ret2
    exact ⟨by first | rfl | (simp; done) | (simp only [← hji9] <;> (first | rfl | simp)) | (simp [*]; done), by repeat (first | exact Drawn0.refl _ | apply Drawn0.step)⟩
/-! ### ref01_At: function 49 -/
def ref01_At.f (a0 : ByteArray) (a1 : Int) : Option (Int) := (ref01_Get.f a0 a1).bind fun bt268 => (some bt268.1)
set_option maxHeartbeats 8000000 in
set_option maxRecDepth 100000 in
theorem ref01_At.calls (a0 : ByteArray) (a1 : Int) (r : Int) (w : World) (h : ref01_At.f a0 a1 = some r) :
 Calls Try.prog 49 #[.string a0, .int .i64 a1] w fun e w' => e = .returned (.int .i64 r) ∧ Drawn0 w w' := by
 have H : ((ref01_Get.f a0 a1).bind fun bt268 => (some bt268.1)) = some r := h
 clear h
 replace H := Option.bind_eq_some_iff.mp H
 obtain ⟨⟨t268, t269⟩, A30, H⟩ := H
 replace H : (some t268) = some r := H
 have A3 := Aside0.mk A30
 clear A30
 obtain rfl := Option.some.inj H
 go_enter Try.func49, Try.ntmps49
 go_wp2_with (first | ((with_reducible refine gate_callee (f := 53) rfl ?_); refine goesL_ (some 10) rfl rfl Try.func53 (by kernel_rfl) rfl #[.string a0, .int .i64 a1] rfl (by (try simp only [zO, zP, zQ]); first | done | rfl | (simp only [zS, zR]; rfl)) ?_; (with_reducible refine (ref01_Get.calls a0 a1 t268 t269 _ A3.out).mono ?_); rintro e w' ⟨rfl, ⟨nd, rfl⟩⟩; refine ⟨_, rfl, ?_⟩))
 go_ret
 exact ⟨by first | rfl | (simp; done) | (simp [*]; done), by repeat (first | exact Drawn0.refl _ | apply Drawn0.step)⟩

/-! ### ref08_Need: function 40 -/
def ref08_Need.f (a0 : ByteArray) : Option (Int × Int) := if (a0.size : Int) < 6 then (some (0, 0)) else ((ref01_At.f a0 4).bind fun t270 => ((ref01_At.f a0 2).bind fun t271 => (if t271 = 0 then (if t270 < 2 then (some (0, 5)) else (if t270 > 254 then (some (0, 5)) else (some (wrap64 (6 + t270), 0)))) else (some (0, 5)))))
set_option maxHeartbeats 8000000 in
set_option maxRecDepth 100000 in
theorem ref08_Need.calls (a0 : ByteArray) (r1 : Int) (r2 : Int) (w : World) (h : ref08_Need.f a0 = some (r1, r2)) :
 Calls Try.prog 40 #[.string a0] w fun e w' => e = .returned (.tuple #[.int .i64 r1, .int .i64 r2]) ∧ Drawn0 w w' := by
 have H : (if (a0.size : Int) < 6 then (some (0, 0)) else ((ref01_At.f a0 4).bind fun t270 => ((ref01_At.f a0 2).bind fun t271 => (if t271 = 0 then (if t270 < 2 then (some (0, 5)) else (if t270 > 254 then (some (0, 5)) else (some (wrap64 (6 + t270), 0)))) else (some (0, 5)))))) = some (r1, r2) := h
 clear h
 by_cases c2 : (a0.size : Int) < 6
 ·rw [if_pos c2] at H
  have c2b0 : decide ((a0.size : Int) < 6) = true := zW c2
  have c2b1 : decide (a0.size < 6) = true := zW (by omega)
  clear c2
  simp only [Option.some.injEq, Prod.mk.injEq] at H
  obtain ⟨rfl, rfl⟩ := H
  go_enter Try.func40, Try.ntmps40
  go_wp2
  go_ret2
  exact ⟨by first | rfl | (simp; done) | (simp [*]; done), by repeat (first | exact Drawn0.refl _ | apply Drawn0.step)⟩
 ·rw [if_neg c2] at H
  have c2b0 : decide ((a0.size : Int) < 6) = false := decide_eq_false c2
  have c2b1 : decide (a0.size < 6) = false := decide_eq_false (by omega)
  clear c2
  replace H := Option.bind_eq_some_iff.mp H
  obtain ⟨t270, A30, H⟩ := H
  replace H : ((ref01_At.f a0 2).bind fun t271 => (if t271 = 0 then (if t270 < 2 then (some (0, 5)) else (if t270 > 254 then (some (0, 5)) else (some (wrap64 (6 + t270), 0)))) else (some (0, 5)))) = some (r1, r2) := H
  have A3 := Aside0.mk A30
  clear A30
  replace H := Option.bind_eq_some_iff.mp H
  obtain ⟨t271, A40, H⟩ := H
  replace H : (if t271 = 0 then (if t270 < 2 then (some (0, 5)) else (if t270 > 254 then (some (0, 5)) else (some (wrap64 (6 + t270), 0)))) else (some (0, 5))) = some (r1, r2) := H
  have A4 := Aside0.mk A40
  clear A40
  by_cases c5 : t271 = 0
  ·rw [if_pos c5] at H
   have c5b0 : (t271 == 0) = true := beq_iff_eq.mpr c5
   have c5b1 : (t271 != 0) = false := bne_eq_false_iff_eq.mpr c5
   clear c5
   by_cases c6 : t270 < 2
   ·rw [if_pos c6] at H
    have c6b0 : decide (t270 < 2) = true := zW c6
    clear c6
    simp only [Option.some.injEq, Prod.mk.injEq] at H
    obtain ⟨rfl, rfl⟩ := H
    go_enter Try.func40, Try.ntmps40
    go_wp2_with (first | ((with_reducible refine gate_callee (f := 49) rfl ?_); refine goesL_ (some 9) rfl rfl Try.func49 (by kernel_rfl) rfl #[.string a0, .int .i64 4] rfl (by (try simp only [zO, zP, zQ]); first | done | rfl | (simp only [zS, zR]; rfl)) ?_; (with_reducible refine (ref01_At.calls a0 4 t270 _ A3.out).mono ?_); rintro e w' ⟨rfl, ⟨nd, rfl⟩⟩; refine ⟨_, rfl, ?_⟩) | ((with_reducible refine gate_callee (f := 49) rfl ?_); refine goesL_ (some 11) rfl rfl Try.func49 (by kernel_rfl) rfl #[.string a0, .int .i64 2] rfl (by (try simp only [zO, zP, zQ]); first | done | rfl | (simp only [zS, zR]; rfl)) ?_; (with_reducible refine (ref01_At.calls a0 2 t271 _ A4.out).mono ?_); rintro e w' ⟨rfl, ⟨nd, rfl⟩⟩; refine ⟨_, rfl, ?_⟩))
    go_ret2
    exact ⟨by first | rfl | (simp; done) | (simp [*]; done), by repeat (first | exact Drawn0.refl _ | apply Drawn0.step)⟩
   ·rw [if_neg c6] at H
    have c6b0 : decide (t270 < 2) = false := decide_eq_false c6
    clear c6
    by_cases c7 : t270 > 254
    ·rw [if_pos c7] at H
     have c7b0 : decide (254 < t270) = true := zW c7
     clear c7
     simp only [Option.some.injEq, Prod.mk.injEq] at H
     obtain ⟨rfl, rfl⟩ := H
     go_enter Try.func40, Try.ntmps40
     go_wp2_with (first | ((with_reducible refine gate_callee (f := 49) rfl ?_); refine goesL_ (some 9) rfl rfl Try.func49 (by kernel_rfl) rfl #[.string a0, .int .i64 4] rfl (by (try simp only [zO, zP, zQ]); first | done | rfl | (simp only [zS, zR]; rfl)) ?_; (with_reducible refine (ref01_At.calls a0 4 t270 _ A3.out).mono ?_); rintro e w' ⟨rfl, ⟨nd, rfl⟩⟩; refine ⟨_, rfl, ?_⟩) | ((with_reducible refine gate_callee (f := 49) rfl ?_); refine goesL_ (some 11) rfl rfl Try.func49 (by kernel_rfl) rfl #[.string a0, .int .i64 2] rfl (by (try simp only [zO, zP, zQ]); first | done | rfl | (simp only [zS, zR]; rfl)) ?_; (with_reducible refine (ref01_At.calls a0 2 t271 _ A4.out).mono ?_); rintro e w' ⟨rfl, ⟨nd, rfl⟩⟩; refine ⟨_, rfl, ?_⟩))
     go_ret2
     exact ⟨by first | rfl | (simp; done) | (simp [*]; done), by repeat (first | exact Drawn0.refl _ | apply Drawn0.step)⟩
    ·rw [if_neg c7] at H
     have c7b0 : decide (254 < t270) = false := decide_eq_false c7
     clear c7
     simp only [Option.some.injEq, Prod.mk.injEq] at H
     obtain ⟨rfl, rfl⟩ := H
     go_enter Try.func40, Try.ntmps40
     go_wp2_with (first | ((with_reducible refine gate_callee (f := 49) rfl ?_); refine goesL_ (some 9) rfl rfl Try.func49 (by kernel_rfl) rfl #[.string a0, .int .i64 4] rfl (by (try simp only [zO, zP, zQ]); first | done | rfl | (simp only [zS, zR]; rfl)) ?_; (with_reducible refine (ref01_At.calls a0 4 t270 _ A3.out).mono ?_); rintro e w' ⟨rfl, ⟨nd, rfl⟩⟩; refine ⟨_, rfl, ?_⟩) | ((with_reducible refine gate_callee (f := 49) rfl ?_); refine goesL_ (some 11) rfl rfl Try.func49 (by kernel_rfl) rfl #[.string a0, .int .i64 2] rfl (by (try simp only [zO, zP, zQ]); first | done | rfl | (simp only [zS, zR]; rfl)) ?_; (with_reducible refine (ref01_At.calls a0 2 t271 _ A4.out).mono ?_); rintro e w' ⟨rfl, ⟨nd, rfl⟩⟩; refine ⟨_, rfl, ?_⟩))
     go_ret2
     exact ⟨by first | rfl | (simp; done) | (simp [*]; done), by repeat (first | exact Drawn0.refl _ | apply Drawn0.step)⟩
  ·rw [if_neg c5] at H
   have c5b0 : (t271 == 0) = false := beq_eq_false_iff_ne.mpr c5
   have c5b1 : (t271 != 0) = true := bne_iff_ne.mpr c5
   simp only [Option.some.injEq, Prod.mk.injEq] at H
   obtain ⟨rfl, rfl⟩ := H
   go_enter Try.func40, Try.ntmps40
   go_wp2_with (first | ((with_reducible refine gate_callee (f := 49) rfl ?_); refine goesL_ (some 9) rfl rfl Try.func49 (by kernel_rfl) rfl #[.string a0, .int .i64 4] rfl (by (try simp only [zO, zP, zQ]); first | done | rfl | (simp only [zS, zR]; rfl)) ?_; (with_reducible refine (ref01_At.calls a0 4 t270 _ A3.out).mono ?_); rintro e w' ⟨rfl, ⟨nd, rfl⟩⟩; refine ⟨_, rfl, ?_⟩) | ((with_reducible refine gate_callee (f := 49) rfl ?_); refine goesL_ (some 11) rfl rfl Try.func49 (by kernel_rfl) rfl #[.string a0, .int .i64 2] rfl (by (try simp only [zO, zP, zQ]); first | done | rfl | (simp only [zS, zR]; rfl)) ?_; (with_reducible refine (ref01_At.calls a0 2 t271 _ A4.out).mono ?_); rintro e w' ⟨rfl, ⟨nd, rfl⟩⟩; refine ⟨_, rfl, ?_⟩))
   go_ret2
   exact ⟨by first | rfl | (simp; done) | (simp [*]; done), by repeat (first | exact Drawn0.refl _ | apply Drawn0.step)⟩

/-! ### ref08_Get: function 41 -/
def ref08_Get.f (a0 : ByteArray) : Option (Int × Int × ByteArray × Int) := (ref08_Need.f a0).bind fun bt273 => (if bt273.2 = 0 then (if bt273.1 = 0 then (some (0, 0, (⟨#[]⟩ : ByteArray), 5)) else (if bt273.1 = (a0.size : Int) then ((ref01_At.f a0 0).bind fun t275 => (if 6 < (a0.size : Int) then (if 7 ≤ (a0.size : Int) then (some (t275, wrap64 (bt a0 6), a0.extract 7 a0.size, 0)) else (none)) else (none))) else (some (0, 0, (⟨#[]⟩ : ByteArray), 5)))) else (some (0, 0, (⟨#[]⟩ : ByteArray), 5)))
def ref08_Get.T4 : Bool × List (List Nat × List Nat) := (true, [([], []), ([0], [0]), ([], []), ([2], [2]), ([3], [3]), ([], []), ([5], [5]), ([1, 4, 6], [1, 4, 6]), ([7, 1, 0, 1, 2, 3, 4, 5, 6, 7], [7]), ([8, 0, 1, 2, 3, 4, 5, 6, 7, 8], [])])
def ref08_Get.B4 : List Nat := [0, 1, 0, 4, 12, 0, 32, 127, 255, 511]
theorem ref08_Get.tab4 : rtab .any (opsOf Try.f41 4) = ref08_Get.T4 := by kernel_rfl
theorem ref08_Get.bits4 : waitsOk ref08_Get.T4.2 ref08_Get.B4 = true := by kernel_rfl
set_option maxHeartbeats 8000000 in
set_option maxRecDepth 100000 in
theorem ref08_Get.calls (a0 : ByteArray) (r1 : Int) (r2 : Int) (r3 : ByteArray) (r4 : Int) (w : World) (h : ref08_Get.f a0 = some (r1, r2, r3, r4)) :
 Calls Try.prog 41 #[.string a0] w fun e w' => e = .returned (.tuple #[.agg #[.int .i64 r1, .int .i64 r2, .string r3], .int .i64 r4]) ∧ Below w.heap.size w w' := by
 have hu38 := Try.underlying38
 have HB := Aside0.mk (Below.refl w.heap.size w)
 have H : ((ref08_Need.f a0).bind fun bt273 => (if bt273.2 = 0 then (if bt273.1 = 0 then (some (0, 0, (⟨#[]⟩ : ByteArray), 5)) else (if bt273.1 = (a0.size : Int) then ((ref01_At.f a0 0).bind fun t275 => (if 6 < (a0.size : Int) then (if 7 ≤ (a0.size : Int) then (some (t275, wrap64 (bt a0 6), a0.extract 7 a0.size, 0)) else (none)) else (none))) else (some (0, 0, (⟨#[]⟩ : ByteArray), 5)))) else (some (0, 0, (⟨#[]⟩ : ByteArray), 5)))) = some (r1, r2, r3, r4) := h
 clear h
 replace H := Option.bind_eq_some_iff.mp H
 obtain ⟨⟨t273, t274⟩, A20, H⟩ := H
 replace H : (if t274 = 0 then (if t273 = 0 then (some (0, 0, (⟨#[]⟩ : ByteArray), 5)) else (if t273 = (a0.size : Int) then ((ref01_At.f a0 0).bind fun t275 => (if 6 < (a0.size : Int) then (if 7 ≤ (a0.size : Int) then (some (t275, wrap64 (bt a0 6), a0.extract 7 a0.size, 0)) else (none)) else (none))) else (some (0, 0, (⟨#[]⟩ : ByteArray), 5)))) else (some (0, 0, (⟨#[]⟩ : ByteArray), 5))) = some (r1, r2, r3, r4) := H
 have A2 := Aside0.mk A20
 clear A20
 by_cases c3 : t274 = 0
 ·rw [if_pos c3] at H
  have c3b0 : (t274 == 0) = true := beq_iff_eq.mpr c3
  have c3b1 : (t274 != 0) = false := bne_eq_false_iff_eq.mpr c3
  clear c3
  by_cases c4 : t273 = 0
  ·rw [if_pos c4] at H
   have c4b0 : (t273 == 0) = true := beq_iff_eq.mpr c4
   have c4b1 : (t273 != 0) = false := bne_eq_false_iff_eq.mpr c4
   clear c4
   simp only [Option.some.injEq, Prod.mk.injEq] at H
   obtain ⟨rfl, rfl, rfl, rfl⟩ := H
   go_enter Try.func41, Try.ntmps41
   go_wp2_with (first | ((with_reducible refine gate_dst (N := 2) rfl ?_); (try (refine gate_guard (by rfl) ?_; dsimp only)); refine box_event ?hg (N := 2) ?hd (cs := #[.int .i64 0, .int .i64 0, .string (⟨#[]⟩ : ByteArray)]) (t := 38) ?hr ?_; (case hd => rfl); (case hg => rfl); (case hr => first | (go_simp; done) | (go_simp; rfl)); intro gb272 hg w5 hbox hb; have n0_ := Aside0.mk (zU (by repeat (first | (with_reducible first | exact HB.out | apply zF | apply zD | apply zE) | exact HB.out)) hb); have n1_ := Aside0.mk (hbox); have n2_ := Aside0.mk ((by rw [hg]; exact (zT (by repeat (first | (with_reducible first | exact HB.out | apply zF | apply zD | apply zE) | exact HB.out))) : w.heap.size ≤ gb272)); have n3_ := Aside0.mk ((by rw [hg]; exact (zT (by repeat (first | (with_reducible first | exact HB.out | apply zF | apply zD | apply zE) | exact HB.out))) : w.heap.size ≤ gb272)); clear HB; have HB := n0_; have BK272 := n1_; have GW272 := n2_; have GE272 := n3_; clear n0_ n1_ n2_ n3_; clear hb hbox hg) | ((with_reducible refine gate_callee (f := 40) rfl ?_); refine goesL_ (some 8) rfl rfl Try.func40 (by kernel_rfl) rfl #[.string a0] rfl (by (try simp only [zO, zP, zQ]); first | done | rfl | (simp only [zS, zR]; rfl)) ?_; (with_reducible refine (ref08_Need.calls a0 t273 t274 _ A2.out).mono ?_); rintro e w' ⟨rfl, ⟨nd, rfl⟩⟩; refine ⟨_, rfl, ?_⟩; (try (rw [drewN_self w5]; generalize hq_ : World.drewN w5 _ = w5; have n0_ : Aside0 (w5.heap[gb272]? = some (.cells #[.int .i64 0, .int .i64 0, .string (⟨#[]⟩ : ByteArray)] 38 (0, 0))) := ⟨by rw [← hq_]; exact (by (with_reducible repeat (first | refine zH ?_ _ | refine zI ?_ | refine zG ?_ _)); exact BK272.out)⟩; have n1_ : Aside0 (Below w.heap.size w w5) := ⟨by rw [← hq_]; exact (by repeat (first | (with_reducible first | exact HB.out | apply zF | apply zD | apply zE | refine zJ ?_ GE272.out) | exact HB.out))⟩; clear BK272 HB hq_; have BK272 := n0_; have HB := n1_; clear n0_ n1_)); have hcz6_0 : w5.cell? ⟨gb272, 0, none⟩ = some (.int .i64 0) := (zK BK272.out 0).trans rfl; have hcz6_1 : w5.cell? ⟨gb272, 1, none⟩ = some (.int .i64 0) := (zK BK272.out 1).trans rfl; have hcz6_2 : w5.cell? ⟨gb272, 2, none⟩ = some (.string (⟨#[]⟩ : ByteArray)) := (zK BK272.out 2).trans rfl; have hfz6_0 := zL BK272.out 0; have hfz6_1 := zL BK272.out 1; have hfz6_2 := zL BK272.out 2))
   refine bodyPost_ret (results_ct rfl _ _ gb272 38 #[.int .i64 0, .int .i64 0, .string (⟨#[]⟩ : ByteArray)] (0, 0) _ rfl (by (with_reducible repeat (first | refine zH ?_ _ | refine zI ?_ | refine zG ?_ _)); refine blk_put (cs := #[.int .i64 0, .int .i64 0, .string (⟨#[]⟩ : ByteArray)]) ?_ 2 _ rfl; (with_reducible repeat (first | refine zH ?_ _ | refine zI ?_ | refine zG ?_ _)); refine blk_put (cs := #[.int .i64 0, .int .i64 0, .string (⟨#[]⟩ : ByteArray)]) ?_ 1 _ rfl; (with_reducible repeat (first | refine zH ?_ _ | refine zI ?_ | refine zG ?_ _)); refine blk_put (cs := #[.int .i64 0, .int .i64 0, .string (⟨#[]⟩ : ByteArray)]) ?_ 0 _ rfl; (with_reducible repeat (first | refine zH ?_ _ | refine zI ?_ | refine zG ?_ _)); exact BK272.out) Try.underlying38 rfl (by kernel_rfl)) rfl ?_
   exact ⟨by first | rfl | (simp [errW_none, errW_some] <;> rfl) | (simp [*, errW_none, errW_some] <;> rfl), by repeat (first | (with_reducible first | exact HB.out | apply zF | apply zD | apply zE | refine zJ ?_ GE272.out) | exact HB.out)⟩
  ·rw [if_neg c4] at H
   have c4b0 : (t273 == 0) = false := beq_eq_false_iff_ne.mpr c4
   have c4b1 : (t273 != 0) = true := bne_iff_ne.mpr c4
   by_cases c7 : t273 = (a0.size : Int)
   ·rw [if_pos c7] at H
    have c7b0 : (t273 == (a0.size : Int)) = true := beq_iff_eq.mpr c7
    have c7b1 : (t273 != (a0.size : Int)) = false := bne_eq_false_iff_eq.mpr c7
    clear c7
    replace H := Option.bind_eq_some_iff.mp H
    obtain ⟨t275, A80, H⟩ := H
    replace H : (if 6 < (a0.size : Int) then (if 7 ≤ (a0.size : Int) then (some (t275, wrap64 (bt a0 6), a0.extract 7 a0.size, 0)) else (none)) else (none)) = some (r1, r2, r3, r4) := H
    have A8 := Aside0.mk A80
    clear A80
    by_cases c9 : 6 < (a0.size : Int)
    rotate_left
    ·rw [if_neg c9] at H
     exact absurd H (by simp)
    rw [if_pos c9] at H
    have c9b0 : decide (6 < (a0.size : Int)) = true := zW c9
    have c9b1 : decide (6 < a0.size) = true := zW (by omega)
    clear c9
    by_cases c11 : 7 ≤ (a0.size : Int)
    rotate_left
    ·rw [if_neg c11] at H
     exact absurd H (by simp)
    rw [if_pos c11] at H
    have c11b0 := eq_true c11
    have c11b1 : decide (7 ≤ (a0.size : Int)) = true := zW c11
    clear c11
    simp only [Option.some.injEq, Prod.mk.injEq] at H
    obtain ⟨rfl, rfl, rfl, rfl⟩ := H
    go_enter Try.func41, Try.ntmps41
    try go_wp2_with (first | ((with_reducible refine gate_dst (N := 2) rfl ?_); (try (refine gate_guard (by rfl) ?_; dsimp only)); refine box_event ?hg (N := 2) ?hd (cs := #[.int .i64 0, .int .i64 0, .string (⟨#[]⟩ : ByteArray)]) (t := 38) ?hr ?_; (case hd => rfl); (case hg => rfl); (case hr => first | (go_simp; done) | (go_simp; rfl)); intro gb272 hg w12 hbox hb; have n0_ := Aside0.mk (zU (by repeat (first | (with_reducible first | exact HB.out | apply zF | apply zD | apply zE) | exact HB.out)) hb); have n1_ := Aside0.mk (hbox); have n2_ := Aside0.mk ((by rw [hg]; exact (zT (by repeat (first | (with_reducible first | exact HB.out | apply zF | apply zD | apply zE) | exact HB.out))) : w.heap.size ≤ gb272)); have n3_ := Aside0.mk ((by rw [hg]; exact (zT (by repeat (first | (with_reducible first | exact HB.out | apply zF | apply zD | apply zE) | exact HB.out))) : w.heap.size ≤ gb272)); clear HB; have HB := n0_; have BK272 := n1_; have GW272 := n2_; have GE272 := n3_; clear n0_ n1_ n2_ n3_; clear hb hbox hg) | ((with_reducible refine gate_callee (f := 40) rfl ?_); refine goesL_ (some 8) rfl rfl Try.func40 (by kernel_rfl) rfl #[.string a0] rfl (by (try simp only [zO, zP, zQ]); first | done | rfl | (simp only [zS, zR]; rfl)) ?_; (with_reducible refine (ref08_Need.calls a0 t273 t274 _ A2.out).mono ?_); rintro e w' ⟨rfl, ⟨nd, rfl⟩⟩; refine ⟨_, rfl, ?_⟩; (try (rw [drewN_self w12]; generalize hq_ : World.drewN w12 _ = w12; have n0_ : Aside0 (w12.heap[gb272]? = some (.cells #[.int .i64 0, .int .i64 0, .string (⟨#[]⟩ : ByteArray)] 38 (0, 0))) := ⟨by rw [← hq_]; exact (by (with_reducible repeat (first | refine zH ?_ _ | refine zI ?_ | refine zG ?_ _)); exact BK272.out)⟩; have n1_ : Aside0 (Below w.heap.size w w12) := ⟨by rw [← hq_]; exact (by repeat (first | (with_reducible first | exact HB.out | apply zF | apply zD | apply zE | refine zJ ?_ GE272.out) | exact HB.out))⟩; clear BK272 HB hq_; have BK272 := n0_; have HB := n1_; clear n0_ n1_))))
    have n0_ := Aside0.mk (zI BK272.out)
    have n1_ := Aside0.mk (zE HB.out)
    clear BK272
    clear HB
    have BK272 := n0_
    have HB := n1_
    clear n0_ n1_
    have p10 : 0 ≤ (6 : Int) := (by omega)
    have q10 : 6 < a0.size := (by have : (6 : Int) < (a0.size : Int) := zV (by first | (with_reducible assumption) | assumption); omega)
    have hx10 : ∀ h : 6 < a0.size, ((a0[6]'h).toNat : Int) = bt a0 6 := bt_at a0 6
    clear p10
    have qi10 : (6 < (a0.size : Int)) = True := eq_true (zV (by first | (with_reducible assumption) | assumption))
    replace q10 := eq_true q10
    refine start_ (n := 10) (S := fun w' => True) (ds := []) #[false, false, false, false, false, false, false, false, false, false] (by kernel_rfl) rfl rfl trivial (fun hHeld => ?_); refine with_tabW ref08_Get.tab4 ref08_Get.bits4 (fun HT_ HW_ => ?_)
    generalize w12.drew = w13 at BK272 HB hHeld ⊢
    refine pure_ (i := 0) (N := some 24) (v := ?_) (a' := ?_) #[true, false, false, false, false, false, false, false, false, false] rfl rfl (any_of HT_.out (by kernel_rfl)) (fun _ _ _ h => h) (Or.inl ⟨by rfl, ?_⟩) ?_ ?_
    rotate_left
    ·intro w'
     go_simp
     with_reducible rfl
    rotate_left
    ·simp only [Act.put, zA, zB, zC, i64_w, i32_w]
     rfl
    refine pure_ (i := 2) (N := some 26) (v := ?_) (a' := ?_) #[true, false, true, false, false, false, false, false, false, false] rfl rfl (any_of HT_.out (by kernel_rfl)) (fun _ _ _ h => h) (Or.inl ⟨by rfl, ?_⟩) ?_ ?_
    rotate_left
    ·intro w'
     go_simp
     with_reducible rfl
    rotate_left
    ·simp only [Act.put, zA, zB, zC, i64_w, i32_w]
     rfl
    refine pure_ (i := 5) (N := some 29) (v := ?_) (a' := ?_) #[true, false, true, false, false, true, false, false, false, false] rfl rfl (any_of HT_.out (by kernel_rfl)) (fun _ _ _ h => h) (Or.inl ⟨by rfl, ?_⟩) ?_ ?_
    rotate_left
    ·intro w'
     go_simp
     with_reducible rfl
    rotate_left
    ·simp only [Act.put, zA, zB, zC, i64_w, i32_w]
     rfl
    refine pure_ (i := 6) (N := some 30) (v := ?_) (a' := ?_) #[true, false, true, false, false, true, true, false, false, false] rfl rfl (any_of HT_.out (by kernel_rfl)) (fun _ _ _ h => h) (Or.inl ⟨by rfl, ?_⟩) ?_ ?_
    rotate_left
    ·intro w'
     go_simp
     with_reducible rfl
    rotate_left
    ·simp only [Act.put, zA, zB, zC, i64_w, i32_w]
     rfl
    refine take_ (i := 3) (N := some 27) (v := ?_) (a' := ?_) #[true, false, true, true, false, true, true, false, false, false] rfl rfl (take_ofW HT_.out HW_.out (by kernel_rfl)) (fun _ _ _ h => h) (Or.inl ⟨by rfl, ?_⟩) hHeld ?_ ?_
    rotate_left
    ·intro w' _
     go_simp
     with_reducible rfl
    rotate_left
    ·simp only [Act.put, zA, zB, zC, i64_w, i32_w]
     rfl
    refine pure_ (i := 4) (N := some 28) (v := ?_) (a' := ?_) #[true, false, true, true, true, true, true, false, false, false] rfl rfl (any_of HT_.out (by kernel_rfl)) (fun _ _ _ h => h) (Or.inl ⟨by rfl, ?_⟩) ?_ ?_
    rotate_left
    ·intro w'
     go_simp
     with_reducible rfl
    rotate_left
    ·simp only [Act.put, zA, zB, zC, i64_w, i32_w]
     rfl
    refine one_ (i := 1) (N := some 25) #[true, true, true, true, true, true, true, false, false, false] rfl rfl (one_of HT_.out (by kernel_rfl)) (by decide) (fun K hK => ?_)
    refine goes_ Try.func49 (by kernel_rfl) rfl #[.string a0, .int .i64 0] (by rfl) rfl rfl (by (try simp only [zO, zP, zQ]); first | done | rfl | (simp only [zS, zR]; rfl)) ?_
    with_reducible refine (ref01_At.calls a0 0 t275 _ A8.out).mono ?_
    rintro e w' ⟨rfl, ⟨nd, rfl⟩⟩
    refine ⟨_, rfl, ?_⟩
    refine hK.out _ _ trivial (fun hHeld => ?_)
    clear hK K
    refine norm_ (a' := ?_) ?_ ?_
    rotate_left
    ·show Act.put _ (some 25) _ = _
     simp only [Act.put, zA, zB, zC, i64_w, i32_w]
     rfl
    refine pure_ (i := 7) (N := some 31) (v := ?_) (a' := ?_) #[true, true, true, true, true, true, true, true, false, false] rfl rfl (any_of HT_.out (by kernel_rfl)) (fun _ _ _ h => h) (Or.inl ⟨by rfl, ?_⟩) ?_ ?_
    rotate_left
    ·intro w'
     go_simp
     with_reducible rfl
    rotate_left
    ·simp only [Act.put, zA, zB, zC, i64_w, i32_w]
     rfl
    refine one_ (i := 8) (N := none) #[true, true, true, true, true, true, true, true, true, false] rfl rfl (one_of HT_.out (by kernel_rfl)) (by decide) (fun K hK => ?_)
    have hs14 : w13.cell? ⟨gb272, 0, none⟩ = some (.int .i64 0) := (zK BK272.out 0).trans rfl
    have hfs14 := zL BK272.out 0
    have hs15 : w13.cell? ⟨gb272, 1, none⟩ = some (.int .i64 0) := (zK BK272.out 1).trans rfl
    have hfs15 := zL BK272.out 1
    have hs16 : w13.cell? ⟨gb272, 2, none⟩ = some (.string (⟨#[]⟩ : ByteArray)) := (zK BK272.out 2).trans rfl
    have hfs16 := zL BK272.out 2
    refine skip_ (w1 := ?_) (by rfl) rfl ?_ ?_
    rotate_left
    ·go_simp
     rfl
    refine hK.out _ _ trivial (fun hHeld => ?_)
    clear hK K
    refine pure_ (i := 9) (N := some 3) (v := ?_) (a' := ?_) #[true, true, true, true, true, true, true, true, true, true] rfl rfl (any_of HT_.out (by kernel_rfl)) (fun _ _ _ h => h) (Or.inl ⟨by rfl, ?_⟩) ?_ ?_
    rotate_left
    ·intro w'
     go_simp
     with_reducible rfl
    rotate_left
    ·simp only [Act.put, zA, zB, zC, i64_w, i32_w]
     rfl
    refine done_ (done_of HT_.out (by kernel_rfl)) ?_
    try go_wp2
    refine bodyPost_ret (results_ct rfl _ _ gb272 38 #[.int .i64 t275, .int .i64 (wrap64 (bt a0 6)), .string (a0.extract 7 a0.size)] (0, 0) _ rfl (by (with_reducible repeat (first | refine zH ?_ _ | refine zI ?_ | refine zG ?_ _)); refine blk_put (cs := #[.int .i64 t275, .int .i64 (wrap64 (bt a0 6)), .string (⟨#[]⟩ : ByteArray)]) ?_ 2 _ rfl; (with_reducible repeat (first | refine zH ?_ _ | refine zI ?_ | refine zG ?_ _)); refine blk_put (cs := #[.int .i64 t275, .int .i64 0, .string (⟨#[]⟩ : ByteArray)]) ?_ 1 _ rfl; (with_reducible repeat (first | refine zH ?_ _ | refine zI ?_ | refine zG ?_ _)); refine blk_put (cs := #[.int .i64 0, .int .i64 0, .string (⟨#[]⟩ : ByteArray)]) ?_ 0 _ rfl; (with_reducible repeat (first | refine zH ?_ _ | refine zI ?_ | refine zG ?_ _)); exact BK272.out) Try.underlying38 rfl (by kernel_rfl)) rfl ?_
    exact ⟨by first | rfl | (simp [errW_none, errW_some] <;> rfl) | (simp [*, errW_none, errW_some] <;> rfl), by repeat (first | (with_reducible first | exact HB.out | apply zF | apply zD | apply zE | refine zJ ?_ GE272.out) | exact HB.out)⟩
   ·rw [if_neg c7] at H
    have c7b0 : (t273 == (a0.size : Int)) = false := beq_eq_false_iff_ne.mpr c7
    have c7b1 : (t273 != (a0.size : Int)) = true := bne_iff_ne.mpr c7
    simp only [Option.some.injEq, Prod.mk.injEq] at H
    obtain ⟨rfl, rfl, rfl, rfl⟩ := H
    go_enter Try.func41, Try.ntmps41
    go_wp2_with (first | ((with_reducible refine gate_dst (N := 2) rfl ?_); (try (refine gate_guard (by rfl) ?_; dsimp only)); refine box_event ?hg (N := 2) ?hd (cs := #[.int .i64 0, .int .i64 0, .string (⟨#[]⟩ : ByteArray)]) (t := 38) ?hr ?_; (case hd => rfl); (case hg => rfl); (case hr => first | (go_simp; done) | (go_simp; rfl)); intro gb272 hg w17 hbox hb; have n0_ := Aside0.mk (zU (by repeat (first | (with_reducible first | exact HB.out | apply zF | apply zD | apply zE) | exact HB.out)) hb); have n1_ := Aside0.mk (hbox); have n2_ := Aside0.mk ((by rw [hg]; exact (zT (by repeat (first | (with_reducible first | exact HB.out | apply zF | apply zD | apply zE) | exact HB.out))) : w.heap.size ≤ gb272)); have n3_ := Aside0.mk ((by rw [hg]; exact (zT (by repeat (first | (with_reducible first | exact HB.out | apply zF | apply zD | apply zE) | exact HB.out))) : w.heap.size ≤ gb272)); clear HB; have HB := n0_; have BK272 := n1_; have GW272 := n2_; have GE272 := n3_; clear n0_ n1_ n2_ n3_; clear hb hbox hg) | ((with_reducible refine gate_callee (f := 40) rfl ?_); refine goesL_ (some 8) rfl rfl Try.func40 (by kernel_rfl) rfl #[.string a0] rfl (by (try simp only [zO, zP, zQ]); first | done | rfl | (simp only [zS, zR]; rfl)) ?_; (with_reducible refine (ref08_Need.calls a0 t273 t274 _ A2.out).mono ?_); rintro e w' ⟨rfl, ⟨nd, rfl⟩⟩; refine ⟨_, rfl, ?_⟩; (try (rw [drewN_self w17]; generalize hq_ : World.drewN w17 _ = w17; have n0_ : Aside0 (w17.heap[gb272]? = some (.cells #[.int .i64 0, .int .i64 0, .string (⟨#[]⟩ : ByteArray)] 38 (0, 0))) := ⟨by rw [← hq_]; exact (by (with_reducible repeat (first | refine zH ?_ _ | refine zI ?_ | refine zG ?_ _)); exact BK272.out)⟩; have n1_ : Aside0 (Below w.heap.size w w17) := ⟨by rw [← hq_]; exact (by repeat (first | (with_reducible first | exact HB.out | apply zF | apply zD | apply zE | refine zJ ?_ GE272.out) | exact HB.out))⟩; clear BK272 HB hq_; have BK272 := n0_; have HB := n1_; clear n0_ n1_)); have hcz18_0 : w17.cell? ⟨gb272, 0, none⟩ = some (.int .i64 0) := (zK BK272.out 0).trans rfl; have hcz18_1 : w17.cell? ⟨gb272, 1, none⟩ = some (.int .i64 0) := (zK BK272.out 1).trans rfl; have hcz18_2 : w17.cell? ⟨gb272, 2, none⟩ = some (.string (⟨#[]⟩ : ByteArray)) := (zK BK272.out 2).trans rfl; have hfz18_0 := zL BK272.out 0; have hfz18_1 := zL BK272.out 1; have hfz18_2 := zL BK272.out 2))
    refine bodyPost_ret (results_ct rfl _ _ gb272 38 #[.int .i64 0, .int .i64 0, .string (⟨#[]⟩ : ByteArray)] (0, 0) _ rfl (by (with_reducible repeat (first | refine zH ?_ _ | refine zI ?_ | refine zG ?_ _)); refine blk_put (cs := #[.int .i64 0, .int .i64 0, .string (⟨#[]⟩ : ByteArray)]) ?_ 2 _ rfl; (with_reducible repeat (first | refine zH ?_ _ | refine zI ?_ | refine zG ?_ _)); refine blk_put (cs := #[.int .i64 0, .int .i64 0, .string (⟨#[]⟩ : ByteArray)]) ?_ 1 _ rfl; (with_reducible repeat (first | refine zH ?_ _ | refine zI ?_ | refine zG ?_ _)); refine blk_put (cs := #[.int .i64 0, .int .i64 0, .string (⟨#[]⟩ : ByteArray)]) ?_ 0 _ rfl; (with_reducible repeat (first | refine zH ?_ _ | refine zI ?_ | refine zG ?_ _)); exact BK272.out) Try.underlying38 rfl (by kernel_rfl)) rfl ?_
    exact ⟨by first | rfl | (simp [errW_none, errW_some] <;> rfl) | (simp [*, errW_none, errW_some] <;> rfl), by repeat (first | (with_reducible first | exact HB.out | apply zF | apply zD | apply zE | refine zJ ?_ GE272.out) | exact HB.out)⟩
 ·rw [if_neg c3] at H
  have c3b0 : (t274 == 0) = false := beq_eq_false_iff_ne.mpr c3
  have c3b1 : (t274 != 0) = true := bne_iff_ne.mpr c3
  simp only [Option.some.injEq, Prod.mk.injEq] at H
  obtain ⟨rfl, rfl, rfl, rfl⟩ := H
  go_enter Try.func41, Try.ntmps41
  go_wp2_with (first | ((with_reducible refine gate_dst (N := 2) rfl ?_); (try (refine gate_guard (by rfl) ?_; dsimp only)); refine box_event ?hg (N := 2) ?hd (cs := #[.int .i64 0, .int .i64 0, .string (⟨#[]⟩ : ByteArray)]) (t := 38) ?hr ?_; (case hd => rfl); (case hg => rfl); (case hr => first | (go_simp; done) | (go_simp; rfl)); intro gb272 hg w19 hbox hb; have n0_ := Aside0.mk (zU (by repeat (first | (with_reducible first | exact HB.out | apply zF | apply zD | apply zE) | exact HB.out)) hb); have n1_ := Aside0.mk (hbox); have n2_ := Aside0.mk ((by rw [hg]; exact (zT (by repeat (first | (with_reducible first | exact HB.out | apply zF | apply zD | apply zE) | exact HB.out))) : w.heap.size ≤ gb272)); have n3_ := Aside0.mk ((by rw [hg]; exact (zT (by repeat (first | (with_reducible first | exact HB.out | apply zF | apply zD | apply zE) | exact HB.out))) : w.heap.size ≤ gb272)); clear HB; have HB := n0_; have BK272 := n1_; have GW272 := n2_; have GE272 := n3_; clear n0_ n1_ n2_ n3_; clear hb hbox hg) | ((with_reducible refine gate_callee (f := 40) rfl ?_); refine goesL_ (some 8) rfl rfl Try.func40 (by kernel_rfl) rfl #[.string a0] rfl (by (try simp only [zO, zP, zQ]); first | done | rfl | (simp only [zS, zR]; rfl)) ?_; (with_reducible refine (ref08_Need.calls a0 t273 t274 _ A2.out).mono ?_); rintro e w' ⟨rfl, ⟨nd, rfl⟩⟩; refine ⟨_, rfl, ?_⟩; (try (rw [drewN_self w19]; generalize hq_ : World.drewN w19 _ = w19; have n0_ : Aside0 (w19.heap[gb272]? = some (.cells #[.int .i64 0, .int .i64 0, .string (⟨#[]⟩ : ByteArray)] 38 (0, 0))) := ⟨by rw [← hq_]; exact (by (with_reducible repeat (first | refine zH ?_ _ | refine zI ?_ | refine zG ?_ _)); exact BK272.out)⟩; have n1_ : Aside0 (Below w.heap.size w w19) := ⟨by rw [← hq_]; exact (by repeat (first | (with_reducible first | exact HB.out | apply zF | apply zD | apply zE | refine zJ ?_ GE272.out) | exact HB.out))⟩; clear BK272 HB hq_; have BK272 := n0_; have HB := n1_; clear n0_ n1_)); have hcz20_0 : w19.cell? ⟨gb272, 0, none⟩ = some (.int .i64 0) := (zK BK272.out 0).trans rfl; have hcz20_1 : w19.cell? ⟨gb272, 1, none⟩ = some (.int .i64 0) := (zK BK272.out 1).trans rfl; have hcz20_2 : w19.cell? ⟨gb272, 2, none⟩ = some (.string (⟨#[]⟩ : ByteArray)) := (zK BK272.out 2).trans rfl; have hfz20_0 := zL BK272.out 0; have hfz20_1 := zL BK272.out 1; have hfz20_2 := zL BK272.out 2))
  refine bodyPost_ret (results_ct rfl _ _ gb272 38 #[.int .i64 0, .int .i64 0, .string (⟨#[]⟩ : ByteArray)] (0, 0) _ rfl (by (with_reducible repeat (first | refine zH ?_ _ | refine zI ?_ | refine zG ?_ _)); refine blk_put (cs := #[.int .i64 0, .int .i64 0, .string (⟨#[]⟩ : ByteArray)]) ?_ 2 _ rfl; (with_reducible repeat (first | refine zH ?_ _ | refine zI ?_ | refine zG ?_ _)); refine blk_put (cs := #[.int .i64 0, .int .i64 0, .string (⟨#[]⟩ : ByteArray)]) ?_ 1 _ rfl; (with_reducible repeat (first | refine zH ?_ _ | refine zI ?_ | refine zG ?_ _)); refine blk_put (cs := #[.int .i64 0, .int .i64 0, .string (⟨#[]⟩ : ByteArray)]) ?_ 0 _ rfl; (with_reducible repeat (first | refine zH ?_ _ | refine zI ?_ | refine zG ?_ _)); exact BK272.out) Try.underlying38 rfl (by kernel_rfl)) rfl ?_
  exact ⟨by first | rfl | (simp [errW_none, errW_some] <;> rfl) | (simp [*, errW_none, errW_some] <;> rfl), by repeat (first | (with_reducible first | exact HB.out | apply zF | apply zD | apply zE | refine zJ ?_ GE272.out) | exact HB.out)⟩

end Go.Proofs.Ytfapfpkijeaapaa.P

-- Written by a program of this session (wip/mkprint.py). Not trusted: Lean checks it.
import Derived.Test.YtfapfpkijeaapaaP0
import Derived.Test.YtfapfpkijeaapaaP4
import Derived.Test.YtfapfpkijeaapaaHandAuditGet
namespace Go.Proofs.Ytfapfpkijeaapaa.P
open Go.RowKit Go.Proofs.YtfapfpkijeaapaaW.PrintWords Go.Proofs.YtfapfpkijeaapaaW.PrintLast Go.Proofs.YtfapfpkijeaapaaW.PrintMore
attribute [local go_sem] max2_int min2_int max_two min_two max_three min_three max_four min_four   -- for this text's walks alone
set_option linter.unusedVariables false
set_option linter.unusedSimpArgs false

/-! ### audit_Get: function 33 -/
def audit_Get.f (k : Nat) (a0 : ByteArray) : Option (Int × Int × Int × Int × Int × Int × Int × Int × Int × Bool) := if (a0.size : Int) = 20 then (if 0 ≤ 6 then (if 6 ≤ (a0.size : Int) then ((audit_get.f k (a0.extract 0 6)).bind fun t109 => (if 6 ≤ 12 then (if 12 ≤ (a0.size : Int) then ((audit_get.f k (a0.extract 6 12)).bind fun t110 => (if 12 ≤ 13 then (if 13 ≤ (a0.size : Int) then ((audit_get.f k (a0.extract 12 13)).bind fun t111 => (if 13 < (a0.size : Int) then ((audit_signed.f (bt a0 13)).bind fun t112 => (if 14 ≤ 15 then (if 15 ≤ (a0.size : Int) then ((audit_get.f k (a0.extract 14 15)).bind fun t113 => (if 15 ≤ 16 then (if 16 ≤ (a0.size : Int) then ((audit_get.f k (a0.extract 15 16)).bind fun t114 => (if 16 ≤ 17 then (if 17 ≤ (a0.size : Int) then ((audit_get.f k (a0.extract 16 17)).bind fun t115 => (if 17 < (a0.size : Int) then ((audit_signed.f (bt a0 17)).bind fun t116 => (if 18 ≤ (a0.size : Int) then ((audit_get.f k (a0.extract 18 a0.size)).bind fun t117 => ((audit_Right.f k t109 t110 t111 t112 t113 t114 t115 t116 t117).bind fun t119 => (if t119 = true then (some (t109, t110, t111, t112, t113, t114, t115, t116, t117, true)) else (some (0, 0, 0, 0, 0, 0, 0, 0, 0, false))))) else (none))) else (none))) else (none)) else (none))) else (none)) else (none))) else (none)) else (none))) else (none))) else (none)) else (none))) else (none)) else (none))) else (none)) else (none)) else (some (0, 0, 0, 0, 0, 0, 0, 0, 0, false))
theorem audit_Get.mono : ∀ a0 k, LeO (audit_Get.f k a0) (audit_Get.f (k + 1) a0) := by
 intro a0 k
 unfold audit_Get.f
 repeat' first
  | (with_reducible exact audit_Right.mono _ _ _ _ _ _ _ _ _ _)
  | (with_reducible exact audit_get.mono _ _)
  | (with_reducible exact LeO.refl _)
  | (with_reducible exact LeO.none _)
  | (with_reducible refine LeO.ite ?_ ?_)
  | (with_reducible refine LeO.bind ?_ (fun _ => ?_))
  | exact audit_Right.mono _ _ _ _ _ _ _ _ _ _
  | exact audit_get.mono _ _
  | exact LeO.none _
  | refine LeO.ite ?_ ?_
  | refine LeO.bind ?_ (fun _ => ?_)
def audit_Get.T3 : Bool × List (List Nat × List Nat) := (true, [([], []), ([0], [0]), ([1], [1]), ([], []), ([3], [3]), ([4, 2], [4]), ([], []), ([6], [6]), ([7, 5], [7]), ([], []), ([9], [9]), ([10, 8], [10]), ([], []), ([12], [12]), ([13, 11], [13]), ([], []), ([15], [15]), ([16, 14], [16]), ([], []), ([18], [18]), ([19, 17], [19]), ([], []), ([21], [21]), ([22, 20], [22]), ([], []), ([24], [24]), ([25, 23], [25]), ([2, 5, 8, 11, 14, 17, 20, 23, 26], [2, 5, 8, 11, 14, 17, 20, 23, 26]), ([], []), ([28, 27, 26, 0, 1, 2, 3, 4, 5, 6, 7, 8, 9, 10, 11, 12, 13, 14, 15, 16, 17, 18, 19, 20, 21, 22, 23, 24, 25, 26, 27, 28], [27, 28])])
def audit_Get.B3 : List Nat := [0, 1, 3, 0, 8, 31, 0, 64, 255, 0, 512, 2047, 0, 4096, 16383, 0, 32768, 131071, 0, 262144, 1048575, 0, 2097152, 8388607, 0, 16777216, 67108863, 134217727, 0, 536870911]
theorem audit_Get.tab3 : rtab .any (opsOf Try.f33 3) = audit_Get.T3 := by kernel_rfl
theorem audit_Get.bits3 : waitsOk audit_Get.T3.2 audit_Get.B3 = true := by kernel_rfl
set_option maxHeartbeats 8000000 in
set_option maxRecDepth 100000 in
theorem audit_Get.callsT (k : Nat) (a0 : ByteArray) (r1 : Int) (r2 : Int) (r3 : Int) (r4 : Int) (r5 : Int) (r6 : Int) (r7 : Int) (r8 : Int) (r9 : Int) (w : World) (h : audit_Get.f k a0 = some (r1, r2, r3, r4, r5, r6, r7, r8, r9, true)) :
 Calls Try.prog 33 #[.string a0] w fun e w' => e = .returned (.tuple #[.agg #[.int .i64 r1, .int .i64 r2, .int .i64 r3, .int .i64 r4, .int .i64 r5, .int .i64 r6, .int .i64 r7, .int .i64 r8, .int .i64 r9], .bool true]) ∧ Below w.heap.size w w' := by
 have hu48 := Try.underlying48
 have HB := Aside0.mk (Below.refl w.heap.size w)
 have H : (if (a0.size : Int) = 20 then (if 0 ≤ 6 then (if 6 ≤ (a0.size : Int) then ((audit_get.f k (a0.extract 0 6)).bind fun t109 => (if 6 ≤ 12 then (if 12 ≤ (a0.size : Int) then ((audit_get.f k (a0.extract 6 12)).bind fun t110 => (if 12 ≤ 13 then (if 13 ≤ (a0.size : Int) then ((audit_get.f k (a0.extract 12 13)).bind fun t111 => (if 13 < (a0.size : Int) then ((audit_signed.f (bt a0 13)).bind fun t112 => (if 14 ≤ 15 then (if 15 ≤ (a0.size : Int) then ((audit_get.f k (a0.extract 14 15)).bind fun t113 => (if 15 ≤ 16 then (if 16 ≤ (a0.size : Int) then ((audit_get.f k (a0.extract 15 16)).bind fun t114 => (if 16 ≤ 17 then (if 17 ≤ (a0.size : Int) then ((audit_get.f k (a0.extract 16 17)).bind fun t115 => (if 17 < (a0.size : Int) then ((audit_signed.f (bt a0 17)).bind fun t116 => (if 18 ≤ (a0.size : Int) then ((audit_get.f k (a0.extract 18 a0.size)).bind fun t117 => ((audit_Right.f k t109 t110 t111 t112 t113 t114 t115 t116 t117).bind fun t119 => (if t119 = true then (some (t109, t110, t111, t112, t113, t114, t115, t116, t117, true)) else (some (0, 0, 0, 0, 0, 0, 0, 0, 0, false))))) else (none))) else (none))) else (none)) else (none))) else (none)) else (none))) else (none)) else (none))) else (none))) else (none)) else (none))) else (none)) else (none))) else (none)) else (none)) else (some (0, 0, 0, 0, 0, 0, 0, 0, 0, false))) = some (r1, r2, r3, r4, r5, r6, r7, r8, r9, true) := h
 clear h
 by_cases c2 : (a0.size : Int) = 20
 ·rw [if_pos c2] at H
  have c2b0 : ((a0.size : Int) == 20) = true := beq_iff_eq.mpr c2
  have c2b1 : ((a0.size : Int) != 20) = false := bne_eq_false_iff_eq.mpr c2
  clear c2
  by_cases c3 : 0 ≤ 6
  rotate_left
  ·rw [if_neg c3] at H
   exact absurd H (by simp)
  rw [if_pos c3] at H
  have c3b0 := eq_true c3
  have c3b1 : decide (0 ≤ 6) = true := zW c3
  clear c3
  by_cases c4 : 6 ≤ (a0.size : Int)
  rotate_left
  ·rw [if_neg c4] at H
   exact absurd H (by simp)
  rw [if_pos c4] at H
  have c4b0 := eq_true c4
  have c4b1 : decide (6 ≤ (a0.size : Int)) = true := zW c4
  clear c4
  replace H := Option.bind_eq_some_iff.mp H
  obtain ⟨t109, A50, H⟩ := H
  replace H : (if 6 ≤ 12 then (if 12 ≤ (a0.size : Int) then ((audit_get.f k (a0.extract 6 12)).bind fun t110 => (if 12 ≤ 13 then (if 13 ≤ (a0.size : Int) then ((audit_get.f k (a0.extract 12 13)).bind fun t111 => (if 13 < (a0.size : Int) then ((audit_signed.f (bt a0 13)).bind fun t112 => (if 14 ≤ 15 then (if 15 ≤ (a0.size : Int) then ((audit_get.f k (a0.extract 14 15)).bind fun t113 => (if 15 ≤ 16 then (if 16 ≤ (a0.size : Int) then ((audit_get.f k (a0.extract 15 16)).bind fun t114 => (if 16 ≤ 17 then (if 17 ≤ (a0.size : Int) then ((audit_get.f k (a0.extract 16 17)).bind fun t115 => (if 17 < (a0.size : Int) then ((audit_signed.f (bt a0 17)).bind fun t116 => (if 18 ≤ (a0.size : Int) then ((audit_get.f k (a0.extract 18 a0.size)).bind fun t117 => ((audit_Right.f k t109 t110 t111 t112 t113 t114 t115 t116 t117).bind fun t119 => (if t119 = true then (some (t109, t110, t111, t112, t113, t114, t115, t116, t117, true)) else (some (0, 0, 0, 0, 0, 0, 0, 0, 0, false))))) else (none))) else (none))) else (none)) else (none))) else (none)) else (none))) else (none)) else (none))) else (none))) else (none)) else (none))) else (none)) else (none)) = some (r1, r2, r3, r4, r5, r6, r7, r8, r9, true) := H
  have A5 := Aside0.mk A50
  clear A50
  by_cases c6 : 6 ≤ 12
  rotate_left
  ·rw [if_neg c6] at H
   exact absurd H (by simp)
  rw [if_pos c6] at H
  have c6b0 := eq_true c6
  have c6b1 : decide (6 ≤ 12) = true := zW c6
  clear c6
  by_cases c7 : 12 ≤ (a0.size : Int)
  rotate_left
  ·rw [if_neg c7] at H
   exact absurd H (by simp)
  rw [if_pos c7] at H
  have c7b0 := eq_true c7
  have c7b1 : decide (12 ≤ (a0.size : Int)) = true := zW c7
  clear c7
  replace H := Option.bind_eq_some_iff.mp H
  obtain ⟨t110, A80, H⟩ := H
  replace H : (if 12 ≤ 13 then (if 13 ≤ (a0.size : Int) then ((audit_get.f k (a0.extract 12 13)).bind fun t111 => (if 13 < (a0.size : Int) then ((audit_signed.f (bt a0 13)).bind fun t112 => (if 14 ≤ 15 then (if 15 ≤ (a0.size : Int) then ((audit_get.f k (a0.extract 14 15)).bind fun t113 => (if 15 ≤ 16 then (if 16 ≤ (a0.size : Int) then ((audit_get.f k (a0.extract 15 16)).bind fun t114 => (if 16 ≤ 17 then (if 17 ≤ (a0.size : Int) then ((audit_get.f k (a0.extract 16 17)).bind fun t115 => (if 17 < (a0.size : Int) then ((audit_signed.f (bt a0 17)).bind fun t116 => (if 18 ≤ (a0.size : Int) then ((audit_get.f k (a0.extract 18 a0.size)).bind fun t117 => ((audit_Right.f k t109 t110 t111 t112 t113 t114 t115 t116 t117).bind fun t119 => (if t119 = true then (some (t109, t110, t111, t112, t113, t114, t115, t116, t117, true)) else (some (0, 0, 0, 0, 0, 0, 0, 0, 0, false))))) else (none))) else (none))) else (none)) else (none))) else (none)) else (none))) else (none)) else (none))) else (none))) else (none)) else (none)) = some (r1, r2, r3, r4, r5, r6, r7, r8, r9, true) := H
  have A8 := Aside0.mk A80
  clear A80
  by_cases c9 : 12 ≤ 13
  rotate_left
  ·rw [if_neg c9] at H
   exact absurd H (by simp)
  rw [if_pos c9] at H
  have c9b0 := eq_true c9
  have c9b1 : decide (12 ≤ 13) = true := zW c9
  clear c9
  by_cases c10 : 13 ≤ (a0.size : Int)
  rotate_left
  ·rw [if_neg c10] at H
   exact absurd H (by simp)
  rw [if_pos c10] at H
  have c10b0 := eq_true c10
  have c10b1 : decide (13 ≤ (a0.size : Int)) = true := zW c10
  clear c10
  replace H := Option.bind_eq_some_iff.mp H
  obtain ⟨t111, A110, H⟩ := H
  replace H : (if 13 < (a0.size : Int) then ((audit_signed.f (bt a0 13)).bind fun t112 => (if 14 ≤ 15 then (if 15 ≤ (a0.size : Int) then ((audit_get.f k (a0.extract 14 15)).bind fun t113 => (if 15 ≤ 16 then (if 16 ≤ (a0.size : Int) then ((audit_get.f k (a0.extract 15 16)).bind fun t114 => (if 16 ≤ 17 then (if 17 ≤ (a0.size : Int) then ((audit_get.f k (a0.extract 16 17)).bind fun t115 => (if 17 < (a0.size : Int) then ((audit_signed.f (bt a0 17)).bind fun t116 => (if 18 ≤ (a0.size : Int) then ((audit_get.f k (a0.extract 18 a0.size)).bind fun t117 => ((audit_Right.f k t109 t110 t111 t112 t113 t114 t115 t116 t117).bind fun t119 => (if t119 = true then (some (t109, t110, t111, t112, t113, t114, t115, t116, t117, true)) else (some (0, 0, 0, 0, 0, 0, 0, 0, 0, false))))) else (none))) else (none))) else (none)) else (none))) else (none)) else (none))) else (none)) else (none))) else (none)) = some (r1, r2, r3, r4, r5, r6, r7, r8, r9, true) := H
  have A11 := Aside0.mk A110
  clear A110
  by_cases c12 : 13 < (a0.size : Int)
  rotate_left
  ·rw [if_neg c12] at H
   exact absurd H (by simp)
  rw [if_pos c12] at H
  have c12b0 : decide (13 < (a0.size : Int)) = true := zW c12
  have c12b1 : decide (13 < a0.size) = true := zW (by omega)
  clear c12
  replace H := Option.bind_eq_some_iff.mp H
  obtain ⟨t112, A140, H⟩ := H
  replace H : (if 14 ≤ 15 then (if 15 ≤ (a0.size : Int) then ((audit_get.f k (a0.extract 14 15)).bind fun t113 => (if 15 ≤ 16 then (if 16 ≤ (a0.size : Int) then ((audit_get.f k (a0.extract 15 16)).bind fun t114 => (if 16 ≤ 17 then (if 17 ≤ (a0.size : Int) then ((audit_get.f k (a0.extract 16 17)).bind fun t115 => (if 17 < (a0.size : Int) then ((audit_signed.f (bt a0 17)).bind fun t116 => (if 18 ≤ (a0.size : Int) then ((audit_get.f k (a0.extract 18 a0.size)).bind fun t117 => ((audit_Right.f k t109 t110 t111 t112 t113 t114 t115 t116 t117).bind fun t119 => (if t119 = true then (some (t109, t110, t111, t112, t113, t114, t115, t116, t117, true)) else (some (0, 0, 0, 0, 0, 0, 0, 0, 0, false))))) else (none))) else (none))) else (none)) else (none))) else (none)) else (none))) else (none)) else (none)) = some (r1, r2, r3, r4, r5, r6, r7, r8, r9, true) := H
  have A14 := Aside0.mk A140
  clear A140
  by_cases c15 : 14 ≤ 15
  rotate_left
  ·rw [if_neg c15] at H
   exact absurd H (by simp)
  rw [if_pos c15] at H
  have c15b0 := eq_true c15
  have c15b1 : decide (14 ≤ 15) = true := zW c15
  clear c15
  by_cases c16 : 15 ≤ (a0.size : Int)
  rotate_left
  ·rw [if_neg c16] at H
   exact absurd H (by simp)
  rw [if_pos c16] at H
  have c16b0 := eq_true c16
  have c16b1 : decide (15 ≤ (a0.size : Int)) = true := zW c16
  clear c16
  replace H := Option.bind_eq_some_iff.mp H
  obtain ⟨t113, A170, H⟩ := H
  replace H : (if 15 ≤ 16 then (if 16 ≤ (a0.size : Int) then ((audit_get.f k (a0.extract 15 16)).bind fun t114 => (if 16 ≤ 17 then (if 17 ≤ (a0.size : Int) then ((audit_get.f k (a0.extract 16 17)).bind fun t115 => (if 17 < (a0.size : Int) then ((audit_signed.f (bt a0 17)).bind fun t116 => (if 18 ≤ (a0.size : Int) then ((audit_get.f k (a0.extract 18 a0.size)).bind fun t117 => ((audit_Right.f k t109 t110 t111 t112 t113 t114 t115 t116 t117).bind fun t119 => (if t119 = true then (some (t109, t110, t111, t112, t113, t114, t115, t116, t117, true)) else (some (0, 0, 0, 0, 0, 0, 0, 0, 0, false))))) else (none))) else (none))) else (none)) else (none))) else (none)) else (none)) = some (r1, r2, r3, r4, r5, r6, r7, r8, r9, true) := H
  have A17 := Aside0.mk A170
  clear A170
  by_cases c18 : 15 ≤ 16
  rotate_left
  ·rw [if_neg c18] at H
   exact absurd H (by simp)
  rw [if_pos c18] at H
  have c18b0 := eq_true c18
  have c18b1 : decide (15 ≤ 16) = true := zW c18
  clear c18
  by_cases c19 : 16 ≤ (a0.size : Int)
  rotate_left
  ·rw [if_neg c19] at H
   exact absurd H (by simp)
  rw [if_pos c19] at H
  have c19b0 := eq_true c19
  have c19b1 : decide (16 ≤ (a0.size : Int)) = true := zW c19
  clear c19
  replace H := Option.bind_eq_some_iff.mp H
  obtain ⟨t114, A200, H⟩ := H
  replace H : (if 16 ≤ 17 then (if 17 ≤ (a0.size : Int) then ((audit_get.f k (a0.extract 16 17)).bind fun t115 => (if 17 < (a0.size : Int) then ((audit_signed.f (bt a0 17)).bind fun t116 => (if 18 ≤ (a0.size : Int) then ((audit_get.f k (a0.extract 18 a0.size)).bind fun t117 => ((audit_Right.f k t109 t110 t111 t112 t113 t114 t115 t116 t117).bind fun t119 => (if t119 = true then (some (t109, t110, t111, t112, t113, t114, t115, t116, t117, true)) else (some (0, 0, 0, 0, 0, 0, 0, 0, 0, false))))) else (none))) else (none))) else (none)) else (none)) = some (r1, r2, r3, r4, r5, r6, r7, r8, r9, true) := H
  have A20 := Aside0.mk A200
  clear A200
  by_cases c21 : 16 ≤ 17
  rotate_left
  ·rw [if_neg c21] at H
   exact absurd H (by simp)
  rw [if_pos c21] at H
  have c21b0 := eq_true c21
  have c21b1 : decide (16 ≤ 17) = true := zW c21
  clear c21
  by_cases c22 : 17 ≤ (a0.size : Int)
  rotate_left
  ·rw [if_neg c22] at H
   exact absurd H (by simp)
  rw [if_pos c22] at H
  have c22b0 := eq_true c22
  have c22b1 : decide (17 ≤ (a0.size : Int)) = true := zW c22
  clear c22
  replace H := Option.bind_eq_some_iff.mp H
  obtain ⟨t115, A230, H⟩ := H
  replace H : (if 17 < (a0.size : Int) then ((audit_signed.f (bt a0 17)).bind fun t116 => (if 18 ≤ (a0.size : Int) then ((audit_get.f k (a0.extract 18 a0.size)).bind fun t117 => ((audit_Right.f k t109 t110 t111 t112 t113 t114 t115 t116 t117).bind fun t119 => (if t119 = true then (some (t109, t110, t111, t112, t113, t114, t115, t116, t117, true)) else (some (0, 0, 0, 0, 0, 0, 0, 0, 0, false))))) else (none))) else (none)) = some (r1, r2, r3, r4, r5, r6, r7, r8, r9, true) := H
  have A23 := Aside0.mk A230
  clear A230
  by_cases c24 : 17 < (a0.size : Int)
  rotate_left
  ·rw [if_neg c24] at H
   exact absurd H (by simp)
  rw [if_pos c24] at H
  have c24b0 : decide (17 < (a0.size : Int)) = true := zW c24
  have c24b1 : decide (17 < a0.size) = true := zW (by omega)
  clear c24
  replace H := Option.bind_eq_some_iff.mp H
  obtain ⟨t116, A260, H⟩ := H
  replace H : (if 18 ≤ (a0.size : Int) then ((audit_get.f k (a0.extract 18 a0.size)).bind fun t117 => ((audit_Right.f k t109 t110 t111 t112 t113 t114 t115 t116 t117).bind fun t119 => (if t119 = true then (some (t109, t110, t111, t112, t113, t114, t115, t116, t117, true)) else (some (0, 0, 0, 0, 0, 0, 0, 0, 0, false))))) else (none)) = some (r1, r2, r3, r4, r5, r6, r7, r8, r9, true) := H
  have A26 := Aside0.mk A260
  clear A260
  by_cases c27 : 18 ≤ (a0.size : Int)
  rotate_left
  ·rw [if_neg c27] at H
   exact absurd H (by simp)
  rw [if_pos c27] at H
  have c27b0 := eq_true c27
  have c27b1 : decide (18 ≤ (a0.size : Int)) = true := zW c27
  clear c27
  replace H := Option.bind_eq_some_iff.mp H
  obtain ⟨t117, A280, H⟩ := H
  replace H : ((audit_Right.f k t109 t110 t111 t112 t113 t114 t115 t116 t117).bind fun t119 => (if t119 = true then (some (t109, t110, t111, t112, t113, t114, t115, t116, t117, true)) else (some (0, 0, 0, 0, 0, 0, 0, 0, 0, false)))) = some (r1, r2, r3, r4, r5, r6, r7, r8, r9, true) := H
  have A28 := Aside0.mk A280
  clear A280
  replace H := Option.bind_eq_some_iff.mp H
  obtain ⟨t119, A290, H⟩ := H
  replace H : (if t119 = true then (some (t109, t110, t111, t112, t113, t114, t115, t116, t117, true)) else (some (0, 0, 0, 0, 0, 0, 0, 0, 0, false))) = some (r1, r2, r3, r4, r5, r6, r7, r8, r9, true) := H
  have A29 := Aside0.mk A290
  clear A290
  by_cases c30 : t119 = true
  ·subst c30
   have H1 : (some (t109, t110, t111, t112, t113, t114, t115, t116, t117, true)) = some (r1, r2, r3, r4, r5, r6, r7, r8, r9, true) := by rw [if_pos rfl] at H; exact H
   clear H
   have H := H1
   clear H1
   simp only [Option.some.injEq, Prod.mk.injEq] at H
   obtain ⟨rfl, rfl, rfl, rfl, rfl, rfl, rfl, rfl, rfl, _⟩ := H
   go_enter Try.func33, Try.ntmps33
   try go_wp2_with (first | ((with_reducible refine gate_dst (N := 2) rfl ?_); refine box_event ?hg (N := 2) ?hd (cs := #[.int .i64 0, .int .i64 0, .int .i64 0, .int .i64 0, .int .i64 0, .int .i64 0, .int .i64 0, .int .i64 0, .int .i64 0]) (t := 48) ?hr ?_; (case hd => rfl); (case hg => rfl); (case hr => first | (go_simp; done) | (go_simp; rfl)); intro gb108 hg w31 hbox hb; have n0_ := Aside0.mk (zU (by repeat (first | (with_reducible first | exact HB.out | apply zF | apply zD | apply zE) | exact HB.out)) hb); have n1_ := Aside0.mk (hbox); have n2_ := Aside0.mk ((by rw [hg]; exact (zT (by repeat (first | (with_reducible first | exact HB.out | apply zF | apply zD | apply zE) | exact HB.out))) : w.heap.size ≤ gb108)); have n3_ := Aside0.mk ((by rw [hg]; exact (zT (by repeat (first | (with_reducible first | exact HB.out | apply zF | apply zD | apply zE) | exact HB.out))) : w.heap.size ≤ gb108)); clear HB; have HB := n0_; have BK108 := n1_; have GW108 := n2_; have GE108 := n3_; clear n0_ n1_ n2_ n3_; clear hb hbox hg))
   have n0_ := Aside0.mk (zI BK108.out)
   have n1_ := Aside0.mk (zE HB.out)
   clear BK108
   clear HB
   have BK108 := n0_
   have HB := n1_
   clear n0_ n1_
   have p13 : 0 ≤ (13 : Int) := (by omega)
   have q13 : 13 < a0.size := (by have : (13 : Int) < (a0.size : Int) := zV (by first | (with_reducible assumption) | assumption); omega)
   have hx13 : ∀ h : 13 < a0.size, ((a0[13]'h).toNat : Int) = bt a0 13 := bt_at a0 13
   clear p13
   have qi13 : (13 < (a0.size : Int)) = True := eq_true (zV (by first | (with_reducible assumption) | assumption))
   replace q13 := eq_true q13
   have p25 : 0 ≤ (17 : Int) := (by omega)
   have q25 : 17 < a0.size := (by have : (17 : Int) < (a0.size : Int) := zV (by first | (with_reducible assumption) | assumption); omega)
   have hx25 : ∀ h : 17 < a0.size, ((a0[17]'h).toNat : Int) = bt a0 17 := bt_at a0 17
   clear p25
   have qi25 : (17 < (a0.size : Int)) = True := eq_true (zV (by first | (with_reducible assumption) | assumption))
   replace q25 := eq_true q25
   refine start_ (n := 30) (S := fun w' => True) (ds := []) #[false, false, false, false, false, false, false, false, false, false, false, false, false, false, false, false, false, false, false, false, false, false, false, false, false, false, false, false, false, false] (by kernel_rfl) rfl rfl trivial (fun hHeld => ?_); refine with_tabW audit_Get.tab3 audit_Get.bits3 (fun HT_ HW_ => ?_)
   generalize w31.drew = w32 at BK108 HB hHeld ⊢
   refine pure_ (i := 0) (N := some 9) (v := ?_) (a' := ?_) #[true, false, false, false, false, false, false, false, false, false, false, false, false, false, false, false, false, false, false, false, false, false, false, false, false, false, false, false, false, false] rfl rfl (any_of HT_.out (by kernel_rfl)) (fun _ _ _ h => h) (Or.inl ⟨by rfl, ?_⟩) ?_ ?_
   rotate_left
   ·intro w'
    go_simp
    with_reducible rfl
   rotate_left
   ·simp only [Act.put, zA, zB, zC, i64_w, i32_w]
    rfl
   refine pure_ (i := 1) (N := some 10) (v := ?_) (a' := ?_) #[true, true, false, false, false, false, false, false, false, false, false, false, false, false, false, false, false, false, false, false, false, false, false, false, false, false, false, false, false, false] rfl rfl (any_of HT_.out (by kernel_rfl)) (fun _ _ _ h => h) (Or.inl ⟨by rfl, ?_⟩) ?_ ?_
   rotate_left
   ·intro w'
    go_simp
    with_reducible rfl
   rotate_left
   ·simp only [Act.put, zA, zB, zC, i64_w, i32_w]
    rfl
   refine pure_ (i := 3) (N := some 12) (v := ?_) (a' := ?_) #[true, true, false, true, false, false, false, false, false, false, false, false, false, false, false, false, false, false, false, false, false, false, false, false, false, false, false, false, false, false] rfl rfl (any_of HT_.out (by kernel_rfl)) (fun _ _ _ h => h) (Or.inl ⟨by rfl, ?_⟩) ?_ ?_
   rotate_left
   ·intro w'
    go_simp
    with_reducible rfl
   rotate_left
   ·simp only [Act.put, zA, zB, zC, i64_w, i32_w]
    rfl
   refine pure_ (i := 4) (N := some 13) (v := ?_) (a' := ?_) #[true, true, false, true, true, false, false, false, false, false, false, false, false, false, false, false, false, false, false, false, false, false, false, false, false, false, false, false, false, false] rfl rfl (any_of HT_.out (by kernel_rfl)) (fun _ _ _ h => h) (Or.inl ⟨by rfl, ?_⟩) ?_ ?_
   rotate_left
   ·intro w'
    go_simp
    with_reducible rfl
   rotate_left
   ·simp only [Act.put, zA, zB, zC, i64_w, i32_w]
    rfl
   refine pure_ (i := 6) (N := some 15) (v := ?_) (a' := ?_) #[true, true, false, true, true, false, true, false, false, false, false, false, false, false, false, false, false, false, false, false, false, false, false, false, false, false, false, false, false, false] rfl rfl (any_of HT_.out (by kernel_rfl)) (fun _ _ _ h => h) (Or.inl ⟨by rfl, ?_⟩) ?_ ?_
   rotate_left
   ·intro w'
    go_simp
    with_reducible rfl
   rotate_left
   ·simp only [Act.put, zA, zB, zC, i64_w, i32_w]
    rfl
   refine pure_ (i := 7) (N := some 16) (v := ?_) (a' := ?_) #[true, true, false, true, true, false, true, true, false, false, false, false, false, false, false, false, false, false, false, false, false, false, false, false, false, false, false, false, false, false] rfl rfl (any_of HT_.out (by kernel_rfl)) (fun _ _ _ h => h) (Or.inl ⟨by rfl, ?_⟩) ?_ ?_
   rotate_left
   ·intro w'
    go_simp
    with_reducible rfl
   rotate_left
   ·simp only [Act.put, zA, zB, zC, i64_w, i32_w]
    rfl
   refine pure_ (i := 9) (N := some 18) (v := ?_) (a' := ?_) #[true, true, false, true, true, false, true, true, false, true, false, false, false, false, false, false, false, false, false, false, false, false, false, false, false, false, false, false, false, false] rfl rfl (any_of HT_.out (by kernel_rfl)) (fun _ _ _ h => h) (Or.inl ⟨by rfl, ?_⟩) ?_ ?_
   rotate_left
   ·intro w'
    go_simp
    with_reducible rfl
   rotate_left
   ·simp only [Act.put, zA, zB, zC, i64_w, i32_w]
    rfl
   refine pure_ (i := 12) (N := some 21) (v := ?_) (a' := ?_) #[true, true, false, true, true, false, true, true, false, true, false, false, true, false, false, false, false, false, false, false, false, false, false, false, false, false, false, false, false, false] rfl rfl (any_of HT_.out (by kernel_rfl)) (fun _ _ _ h => h) (Or.inl ⟨by rfl, ?_⟩) ?_ ?_
   rotate_left
   ·intro w'
    go_simp
    with_reducible rfl
   rotate_left
   ·simp only [Act.put, zA, zB, zC, i64_w, i32_w]
    rfl
   refine pure_ (i := 13) (N := some 22) (v := ?_) (a' := ?_) #[true, true, false, true, true, false, true, true, false, true, false, false, true, true, false, false, false, false, false, false, false, false, false, false, false, false, false, false, false, false] rfl rfl (any_of HT_.out (by kernel_rfl)) (fun _ _ _ h => h) (Or.inl ⟨by rfl, ?_⟩) ?_ ?_
   rotate_left
   ·intro w'
    go_simp
    with_reducible rfl
   rotate_left
   ·simp only [Act.put, zA, zB, zC, i64_w, i32_w]
    rfl
   refine pure_ (i := 15) (N := some 24) (v := ?_) (a' := ?_) #[true, true, false, true, true, false, true, true, false, true, false, false, true, true, false, true, false, false, false, false, false, false, false, false, false, false, false, false, false, false] rfl rfl (any_of HT_.out (by kernel_rfl)) (fun _ _ _ h => h) (Or.inl ⟨by rfl, ?_⟩) ?_ ?_
   rotate_left
   ·intro w'
    go_simp
    with_reducible rfl
   rotate_left
   ·simp only [Act.put, zA, zB, zC, i64_w, i32_w]
    rfl
   refine pure_ (i := 16) (N := some 25) (v := ?_) (a' := ?_) #[true, true, false, true, true, false, true, true, false, true, false, false, true, true, false, true, true, false, false, false, false, false, false, false, false, false, false, false, false, false] rfl rfl (any_of HT_.out (by kernel_rfl)) (fun _ _ _ h => h) (Or.inl ⟨by rfl, ?_⟩) ?_ ?_
   rotate_left
   ·intro w'
    go_simp
    with_reducible rfl
   rotate_left
   ·simp only [Act.put, zA, zB, zC, i64_w, i32_w]
    rfl
   refine pure_ (i := 18) (N := some 27) (v := ?_) (a' := ?_) #[true, true, false, true, true, false, true, true, false, true, false, false, true, true, false, true, true, false, true, false, false, false, false, false, false, false, false, false, false, false] rfl rfl (any_of HT_.out (by kernel_rfl)) (fun _ _ _ h => h) (Or.inl ⟨by rfl, ?_⟩) ?_ ?_
   rotate_left
   ·intro w'
    go_simp
    with_reducible rfl
   rotate_left
   ·simp only [Act.put, zA, zB, zC, i64_w, i32_w]
    rfl
   refine pure_ (i := 19) (N := some 28) (v := ?_) (a' := ?_) #[true, true, false, true, true, false, true, true, false, true, false, false, true, true, false, true, true, false, true, true, false, false, false, false, false, false, false, false, false, false] rfl rfl (any_of HT_.out (by kernel_rfl)) (fun _ _ _ h => h) (Or.inl ⟨by rfl, ?_⟩) ?_ ?_
   rotate_left
   ·intro w'
    go_simp
    with_reducible rfl
   rotate_left
   ·simp only [Act.put, zA, zB, zC, i64_w, i32_w]
    rfl
   refine pure_ (i := 21) (N := some 30) (v := ?_) (a' := ?_) #[true, true, false, true, true, false, true, true, false, true, false, false, true, true, false, true, true, false, true, true, false, true, false, false, false, false, false, false, false, false] rfl rfl (any_of HT_.out (by kernel_rfl)) (fun _ _ _ h => h) (Or.inl ⟨by rfl, ?_⟩) ?_ ?_
   rotate_left
   ·intro w'
    go_simp
    with_reducible rfl
   rotate_left
   ·simp only [Act.put, zA, zB, zC, i64_w, i32_w]
    rfl
   refine pure_ (i := 24) (N := some 33) (v := ?_) (a' := ?_) #[true, true, false, true, true, false, true, true, false, true, false, false, true, true, false, true, true, false, true, true, false, true, false, false, true, false, false, false, false, false] rfl rfl (any_of HT_.out (by kernel_rfl)) (fun _ _ _ h => h) (Or.inl ⟨by rfl, ?_⟩) ?_ ?_
   rotate_left
   ·intro w'
    go_simp
    with_reducible rfl
   rotate_left
   ·simp only [Act.put, zA, zB, zC, i64_w, i32_w]
    rfl
   refine pure_ (i := 25) (N := some 34) (v := ?_) (a' := ?_) #[true, true, false, true, true, false, true, true, false, true, false, false, true, true, false, true, true, false, true, true, false, true, false, false, true, true, false, false, false, false] rfl rfl (any_of HT_.out (by kernel_rfl)) (fun _ _ _ h => h) (Or.inl ⟨by rfl, ?_⟩) ?_ ?_
   rotate_left
   ·intro w'
    go_simp
    with_reducible rfl
   rotate_left
   ·simp only [Act.put, zA, zB, zC, i64_w, i32_w]
    rfl
   refine take_ (i := 10) (N := some 19) (v := ?_) (a' := ?_) #[true, true, false, true, true, false, true, true, false, true, true, false, true, true, false, true, true, false, true, true, false, true, false, false, true, true, false, false, false, false] rfl rfl (take_ofW HT_.out HW_.out (by kernel_rfl)) (fun _ _ _ h => h) (Or.inl ⟨by rfl, ?_⟩) hHeld ?_ ?_
   rotate_left
   ·intro w' _
    go_simp
    with_reducible rfl
   rotate_left
   ·simp only [Act.put, zA, zB, zC, i64_w, i32_w]
    rfl
   refine take_ (i := 22) (N := some 31) (v := ?_) (a' := ?_) #[true, true, false, true, true, false, true, true, false, true, true, false, true, true, false, true, true, false, true, true, false, true, true, false, true, true, false, false, false, false] rfl rfl (take_ofW HT_.out HW_.out (by kernel_rfl)) (fun _ _ _ h => h) (Or.inl ⟨by rfl, ?_⟩) hHeld ?_ ?_
   rotate_left
   ·intro w' _
    go_simp
    with_reducible rfl
   rotate_left
   ·simp only [Act.put, zA, zB, zC, i64_w, i32_w]
    rfl
   refine join_ (σ := Nat) 1 #[true, true, true, true, true, true, true, true, true, true, true, true, true, true, true, true, true, true, true, true, true, true, true, true, true, true, true, true, true, false] (fun s_ => [(11, .int .i64 t109), (14, .int .i64 t110), (17, .int .i64 t111), (20, .int .i64 t112), (23, .int .i64 t113), (26, .int .i64 t114), (29, .int .i64 t115), (32, .int .i64 t116), (35, .int .i64 t117), (4, .pointer (some ⟨s_, 0, none⟩)), (36, .agg #[.int .i64 t109, .int .i64 t110, .int .i64 t111, .int .i64 t112, .int .i64 t113, .int .i64 t114, .int .i64 t115, .int .i64 t116, .int .i64 t117])]) (fun s_ w' => (w'.heap[gb108]? = some (.cells #[.int .i64 0, .int .i64 0, .int .i64 0, .int .i64 0, .int .i64 0, .int .i64 0, .int .i64 0, .int .i64 0, .int .i64 0] 48 (0, 0))) ∧ (w'.heap[s_]? = some (.cells #[.int .i64 0, .int .i64 0, .int .i64 0, .int .i64 0, .int .i64 0, .int .i64 0, .int .i64 0, .int .i64 0, .int .i64 0] 48 (0, 0))) ∧ (w.heap.size ≤ s_) ∧ (w.heap.size ≤ s_) ∧ (gb108 ≠ s_) ∧ (s_ ≠ gb108) ∧ (Below w.heap.size w w')) ?_ ?_
   rotate_left
   ·intro hJ2_5_8_11_14_17_20_23_26_28
    refine join_ (σ := Unit) 2 #[true, true, true, true, true, true, true, true, true, true, true, true, true, true, true, true, true, true, true, true, true, true, true, true, true, true, true, true, false, false] (fun s_ => [(11, .int .i64 t109), (14, .int .i64 t110), (17, .int .i64 t111), (20, .int .i64 t112), (23, .int .i64 t113), (26, .int .i64 t114), (29, .int .i64 t115), (32, .int .i64 t116), (35, .int .i64 t117), (36, .agg #[.int .i64 t109, .int .i64 t110, .int .i64 t111, .int .i64 t112, .int .i64 t113, .int .i64 t114, .int .i64 t115, .int .i64 t116, .int .i64 t117])]) (fun s_ w' => (w'.heap[gb108]? = some (.cells #[.int .i64 0, .int .i64 0, .int .i64 0, .int .i64 0, .int .i64 0, .int .i64 0, .int .i64 0, .int .i64 0, .int .i64 0] 48 (0, 0))) ∧ (Below w.heap.size w w')) ?_ ?_
    rotate_left
    ·intro hJ2_5_8_11_14_17_20_23_26
     refine join_ (σ := Nat) 3 #[true, true, true, true, true, true, true, true, true, true, true, true, true, true, true, true, true, true, true, true, true, true, true, true, true, true, false, false, true, false] (fun s_ => [(11, .int .i64 t109), (14, .int .i64 t110), (17, .int .i64 t111), (20, .int .i64 t112), (23, .int .i64 t113), (26, .int .i64 t114), (29, .int .i64 t115), (32, .int .i64 t116), (4, .pointer (some ⟨s_, 0, none⟩))]) (fun s_ w' => (w'.heap[gb108]? = some (.cells #[.int .i64 0, .int .i64 0, .int .i64 0, .int .i64 0, .int .i64 0, .int .i64 0, .int .i64 0, .int .i64 0, .int .i64 0] 48 (0, 0))) ∧ (w'.heap[s_]? = some (.cells #[.int .i64 0, .int .i64 0, .int .i64 0, .int .i64 0, .int .i64 0, .int .i64 0, .int .i64 0, .int .i64 0, .int .i64 0] 48 (0, 0))) ∧ (w.heap.size ≤ s_) ∧ (w.heap.size ≤ s_) ∧ (gb108 ≠ s_) ∧ (s_ ≠ gb108) ∧ (Below w.heap.size w w')) ?_ ?_
     rotate_left
     ·intro hJ2_5_8_11_14_17_20_23_28
      refine join_ (σ := Unit) 4 #[true, true, true, true, true, true, true, true, true, true, true, true, true, true, true, true, true, true, true, true, true, true, true, true, true, true, false, false, false, false] (fun s_ => [(11, .int .i64 t109), (14, .int .i64 t110), (17, .int .i64 t111), (20, .int .i64 t112), (23, .int .i64 t113), (26, .int .i64 t114), (29, .int .i64 t115), (32, .int .i64 t116)]) (fun s_ w' => (w'.heap[gb108]? = some (.cells #[.int .i64 0, .int .i64 0, .int .i64 0, .int .i64 0, .int .i64 0, .int .i64 0, .int .i64 0, .int .i64 0, .int .i64 0] 48 (0, 0))) ∧ (Below w.heap.size w w')) ?_ ?_
      rotate_left
      ·intro hJ2_5_8_11_14_17_20_23
       refine join_ (σ := Nat) 4 #[true, true, true, true, true, true, true, true, true, true, true, true, true, true, true, true, true, true, true, true, true, true, true, false, true, true, false, false, true, false] (fun s_ => [(11, .int .i64 t109), (14, .int .i64 t110), (17, .int .i64 t111), (20, .int .i64 t112), (23, .int .i64 t113), (26, .int .i64 t114), (29, .int .i64 t115), (4, .pointer (some ⟨s_, 0, none⟩))]) (fun s_ w' => (w'.heap[gb108]? = some (.cells #[.int .i64 0, .int .i64 0, .int .i64 0, .int .i64 0, .int .i64 0, .int .i64 0, .int .i64 0, .int .i64 0, .int .i64 0] 48 (0, 0))) ∧ (w'.heap[s_]? = some (.cells #[.int .i64 0, .int .i64 0, .int .i64 0, .int .i64 0, .int .i64 0, .int .i64 0, .int .i64 0, .int .i64 0, .int .i64 0] 48 (0, 0))) ∧ (w.heap.size ≤ s_) ∧ (w.heap.size ≤ s_) ∧ (gb108 ≠ s_) ∧ (s_ ≠ gb108) ∧ (Below w.heap.size w w')) ?_ ?_
       rotate_left
       ·intro hJ2_5_8_11_14_17_20_28
        refine join_ (σ := Unit) 5 #[true, true, true, true, true, true, true, true, true, true, true, true, true, true, true, true, true, true, true, true, true, true, true, false, true, true, false, false, false, false] (fun s_ => [(11, .int .i64 t109), (14, .int .i64 t110), (17, .int .i64 t111), (20, .int .i64 t112), (23, .int .i64 t113), (26, .int .i64 t114), (29, .int .i64 t115)]) (fun s_ w' => (w'.heap[gb108]? = some (.cells #[.int .i64 0, .int .i64 0, .int .i64 0, .int .i64 0, .int .i64 0, .int .i64 0, .int .i64 0, .int .i64 0, .int .i64 0] 48 (0, 0))) ∧ (Below w.heap.size w w')) ?_ ?_
        rotate_left
        ·intro hJ2_5_8_11_14_17_20
         refine join_ (σ := Nat) 5 #[true, true, true, true, true, true, true, true, true, true, true, true, true, true, true, true, true, true, true, true, false, true, true, false, true, true, false, false, true, false] (fun s_ => [(11, .int .i64 t109), (14, .int .i64 t110), (17, .int .i64 t111), (20, .int .i64 t112), (23, .int .i64 t113), (26, .int .i64 t114), (4, .pointer (some ⟨s_, 0, none⟩))]) (fun s_ w' => (w'.heap[gb108]? = some (.cells #[.int .i64 0, .int .i64 0, .int .i64 0, .int .i64 0, .int .i64 0, .int .i64 0, .int .i64 0, .int .i64 0, .int .i64 0] 48 (0, 0))) ∧ (w'.heap[s_]? = some (.cells #[.int .i64 0, .int .i64 0, .int .i64 0, .int .i64 0, .int .i64 0, .int .i64 0, .int .i64 0, .int .i64 0, .int .i64 0] 48 (0, 0))) ∧ (w.heap.size ≤ s_) ∧ (w.heap.size ≤ s_) ∧ (gb108 ≠ s_) ∧ (s_ ≠ gb108) ∧ (Below w.heap.size w w')) ?_ ?_
         rotate_left
         ·intro hJ2_5_8_11_14_17_28
          refine join_ (σ := Unit) 6 #[true, true, true, true, true, true, true, true, true, true, true, true, true, true, true, true, true, true, true, true, false, true, true, false, true, true, false, false, false, false] (fun s_ => [(11, .int .i64 t109), (14, .int .i64 t110), (17, .int .i64 t111), (20, .int .i64 t112), (23, .int .i64 t113), (26, .int .i64 t114)]) (fun s_ w' => (w'.heap[gb108]? = some (.cells #[.int .i64 0, .int .i64 0, .int .i64 0, .int .i64 0, .int .i64 0, .int .i64 0, .int .i64 0, .int .i64 0, .int .i64 0] 48 (0, 0))) ∧ (Below w.heap.size w w')) ?_ ?_
          rotate_left
          ·intro hJ2_5_8_11_14_17
           refine join_ (σ := Nat) 6 #[true, true, true, true, true, true, true, true, true, true, true, true, true, true, true, true, true, false, true, true, false, true, true, false, true, true, false, false, true, false] (fun s_ => [(11, .int .i64 t109), (14, .int .i64 t110), (17, .int .i64 t111), (20, .int .i64 t112), (23, .int .i64 t113), (4, .pointer (some ⟨s_, 0, none⟩))]) (fun s_ w' => (w'.heap[gb108]? = some (.cells #[.int .i64 0, .int .i64 0, .int .i64 0, .int .i64 0, .int .i64 0, .int .i64 0, .int .i64 0, .int .i64 0, .int .i64 0] 48 (0, 0))) ∧ (w'.heap[s_]? = some (.cells #[.int .i64 0, .int .i64 0, .int .i64 0, .int .i64 0, .int .i64 0, .int .i64 0, .int .i64 0, .int .i64 0, .int .i64 0] 48 (0, 0))) ∧ (w.heap.size ≤ s_) ∧ (w.heap.size ≤ s_) ∧ (gb108 ≠ s_) ∧ (s_ ≠ gb108) ∧ (Below w.heap.size w w')) ?_ ?_
           rotate_left
           ·intro hJ2_5_8_11_14_28
            refine join_ (σ := Unit) 7 #[true, true, true, true, true, true, true, true, true, true, true, true, true, true, true, true, true, false, true, true, false, true, true, false, true, true, false, false, false, false] (fun s_ => [(11, .int .i64 t109), (14, .int .i64 t110), (17, .int .i64 t111), (20, .int .i64 t112), (23, .int .i64 t113)]) (fun s_ w' => (w'.heap[gb108]? = some (.cells #[.int .i64 0, .int .i64 0, .int .i64 0, .int .i64 0, .int .i64 0, .int .i64 0, .int .i64 0, .int .i64 0, .int .i64 0] 48 (0, 0))) ∧ (Below w.heap.size w w')) ?_ ?_
            rotate_left
            ·intro hJ2_5_8_11_14
             refine join_ (σ := Nat) 7 #[true, true, true, true, true, true, true, true, true, true, true, true, true, true, false, true, true, false, true, true, false, true, true, false, true, true, false, false, true, false] (fun s_ => [(11, .int .i64 t109), (14, .int .i64 t110), (17, .int .i64 t111), (20, .int .i64 t112), (4, .pointer (some ⟨s_, 0, none⟩))]) (fun s_ w' => (w'.heap[gb108]? = some (.cells #[.int .i64 0, .int .i64 0, .int .i64 0, .int .i64 0, .int .i64 0, .int .i64 0, .int .i64 0, .int .i64 0, .int .i64 0] 48 (0, 0))) ∧ (w'.heap[s_]? = some (.cells #[.int .i64 0, .int .i64 0, .int .i64 0, .int .i64 0, .int .i64 0, .int .i64 0, .int .i64 0, .int .i64 0, .int .i64 0] 48 (0, 0))) ∧ (w.heap.size ≤ s_) ∧ (w.heap.size ≤ s_) ∧ (gb108 ≠ s_) ∧ (s_ ≠ gb108) ∧ (Below w.heap.size w w')) ?_ ?_
             rotate_left
             ·intro hJ2_5_8_11_28
              refine join_ (σ := Unit) 8 #[true, true, true, true, true, true, true, true, true, true, true, true, true, true, false, true, true, false, true, true, false, true, true, false, true, true, false, false, false, false] (fun s_ => [(11, .int .i64 t109), (14, .int .i64 t110), (17, .int .i64 t111), (20, .int .i64 t112)]) (fun s_ w' => (w'.heap[gb108]? = some (.cells #[.int .i64 0, .int .i64 0, .int .i64 0, .int .i64 0, .int .i64 0, .int .i64 0, .int .i64 0, .int .i64 0, .int .i64 0] 48 (0, 0))) ∧ (Below w.heap.size w w')) ?_ ?_
              rotate_left
              ·intro hJ2_5_8_11
               refine join_ (σ := Nat) 8 #[true, true, true, true, true, true, true, true, true, true, true, false, true, true, false, true, true, false, true, true, false, true, true, false, true, true, false, false, true, false] (fun s_ => [(11, .int .i64 t109), (14, .int .i64 t110), (17, .int .i64 t111), (4, .pointer (some ⟨s_, 0, none⟩))]) (fun s_ w' => (w'.heap[gb108]? = some (.cells #[.int .i64 0, .int .i64 0, .int .i64 0, .int .i64 0, .int .i64 0, .int .i64 0, .int .i64 0, .int .i64 0, .int .i64 0] 48 (0, 0))) ∧ (w'.heap[s_]? = some (.cells #[.int .i64 0, .int .i64 0, .int .i64 0, .int .i64 0, .int .i64 0, .int .i64 0, .int .i64 0, .int .i64 0, .int .i64 0] 48 (0, 0))) ∧ (w.heap.size ≤ s_) ∧ (w.heap.size ≤ s_) ∧ (gb108 ≠ s_) ∧ (s_ ≠ gb108) ∧ (Below w.heap.size w w')) ?_ ?_
               rotate_left
               ·intro hJ2_5_8_28
                refine join_ (σ := Unit) 9 #[true, true, true, true, true, true, true, true, true, true, true, false, true, true, false, true, true, false, true, true, false, true, true, false, true, true, false, false, false, false] (fun s_ => [(11, .int .i64 t109), (14, .int .i64 t110), (17, .int .i64 t111)]) (fun s_ w' => (w'.heap[gb108]? = some (.cells #[.int .i64 0, .int .i64 0, .int .i64 0, .int .i64 0, .int .i64 0, .int .i64 0, .int .i64 0, .int .i64 0, .int .i64 0] 48 (0, 0))) ∧ (Below w.heap.size w w')) ?_ ?_
                rotate_left
                ·intro hJ2_5_8
                 refine join_ (σ := Nat) 9 #[true, true, true, true, true, true, true, true, false, true, true, false, true, true, false, true, true, false, true, true, false, true, true, false, true, true, false, false, true, false] (fun s_ => [(11, .int .i64 t109), (14, .int .i64 t110), (4, .pointer (some ⟨s_, 0, none⟩))]) (fun s_ w' => (w'.heap[gb108]? = some (.cells #[.int .i64 0, .int .i64 0, .int .i64 0, .int .i64 0, .int .i64 0, .int .i64 0, .int .i64 0, .int .i64 0, .int .i64 0] 48 (0, 0))) ∧ (w'.heap[s_]? = some (.cells #[.int .i64 0, .int .i64 0, .int .i64 0, .int .i64 0, .int .i64 0, .int .i64 0, .int .i64 0, .int .i64 0, .int .i64 0] 48 (0, 0))) ∧ (w.heap.size ≤ s_) ∧ (w.heap.size ≤ s_) ∧ (gb108 ≠ s_) ∧ (s_ ≠ gb108) ∧ (Below w.heap.size w w')) ?_ ?_
                 rotate_left
                 ·intro hJ2_5_28
                  refine join_ (σ := Unit) 10 #[true, true, true, true, true, true, true, true, false, true, true, false, true, true, false, true, true, false, true, true, false, true, true, false, true, true, false, false, false, false] (fun s_ => [(11, .int .i64 t109), (14, .int .i64 t110)]) (fun s_ w' => (w'.heap[gb108]? = some (.cells #[.int .i64 0, .int .i64 0, .int .i64 0, .int .i64 0, .int .i64 0, .int .i64 0, .int .i64 0, .int .i64 0, .int .i64 0] 48 (0, 0))) ∧ (Below w.heap.size w w')) ?_ ?_
                  rotate_left
                  ·intro hJ2_5
                   refine join_ (σ := Nat) 10 #[true, true, true, true, true, false, true, true, false, true, true, false, true, true, false, true, true, false, true, true, false, true, true, false, true, true, false, false, true, false] (fun s_ => [(11, .int .i64 t109), (4, .pointer (some ⟨s_, 0, none⟩))]) (fun s_ w' => (w'.heap[gb108]? = some (.cells #[.int .i64 0, .int .i64 0, .int .i64 0, .int .i64 0, .int .i64 0, .int .i64 0, .int .i64 0, .int .i64 0, .int .i64 0] 48 (0, 0))) ∧ (w'.heap[s_]? = some (.cells #[.int .i64 0, .int .i64 0, .int .i64 0, .int .i64 0, .int .i64 0, .int .i64 0, .int .i64 0, .int .i64 0, .int .i64 0] 48 (0, 0))) ∧ (w.heap.size ≤ s_) ∧ (w.heap.size ≤ s_) ∧ (gb108 ≠ s_) ∧ (s_ ≠ gb108) ∧ (Below w.heap.size w w')) ?_ ?_
                   rotate_left
                   ·intro hJ2_28
                    refine join_ (σ := Unit) 11 #[true, true, true, true, true, false, true, true, false, true, true, false, true, true, false, true, true, false, true, true, false, true, true, false, true, true, false, false, false, false] (fun s_ => [(11, .int .i64 t109)]) (fun s_ w' => (w'.heap[gb108]? = some (.cells #[.int .i64 0, .int .i64 0, .int .i64 0, .int .i64 0, .int .i64 0, .int .i64 0, .int .i64 0, .int .i64 0, .int .i64 0] 48 (0, 0))) ∧ (Below w.heap.size w w')) ?_ ?_
                    rotate_left
                    ·intro hJ2
                     refine join_ (σ := Nat) 11 #[true, true, false, true, true, false, true, true, false, true, true, false, true, true, false, true, true, false, true, true, false, true, true, false, true, true, false, false, true, false] (fun s_ => [(4, .pointer (some ⟨s_, 0, none⟩))]) (fun s_ w' => (w'.heap[gb108]? = some (.cells #[.int .i64 0, .int .i64 0, .int .i64 0, .int .i64 0, .int .i64 0, .int .i64 0, .int .i64 0, .int .i64 0, .int .i64 0] 48 (0, 0))) ∧ (w'.heap[s_]? = some (.cells #[.int .i64 0, .int .i64 0, .int .i64 0, .int .i64 0, .int .i64 0, .int .i64 0, .int .i64 0, .int .i64 0, .int .i64 0] 48 (0, 0))) ∧ (w.heap.size ≤ s_) ∧ (w.heap.size ≤ s_) ∧ (gb108 ≠ s_) ∧ (s_ ≠ gb108) ∧ (Below w.heap.size w w')) ?_ ?_
                     rotate_left
                     ·intro hJ28
                      refine two_ (i := 2) (j := 28) (Ni := some 11) (Nj := some 4) #[true, true, true, true, true, false, true, true, false, true, true, false, true, true, false, true, true, false, true, true, false, true, true, false, true, true, false, false, false, false] #[true, true, false, true, true, false, true, true, false, true, true, false, true, true, false, true, true, false, true, true, false, true, true, false, true, true, false, false, true, false] rfl rfl rfl rfl (two_of HT_.out (by kernel_rfl)) (by decide) (by decide) (fun K hK => ?_) (fun K hK => ?_)
                      ·skip
                       refine goes_ Try.func44 (by kernel_rfl) rfl #[.string (a0.extract 0 6)] (by rfl) rfl rfl (by (try simp only [zO, zP, zQ]); first | done | rfl | (simp only [zS, zR]; rfl)) ?_
                       with_reducible refine (audit_get.calls k (a0.extract 0 6) t109 _ A5.out).mono ?_
                       rintro e w33 ⟨rfl, hb⟩
                       refine ⟨_, rfl, ?_⟩
                       have n0_ := Aside0.mk (blk_below (g := gb108) (o := .cells #[.int .i64 0, .int .i64 0, .int .i64 0, .int .i64 0, .int .i64 0, .int .i64 0, .int .i64 0, .int .i64 0, .int .i64 0] 48 (0, 0)) (by (with_reducible repeat (first | refine zH ?_ _ | refine zI ?_ | refine zG ?_ _)); exact BK108.out) hb)
                       have n1_ := Aside0.mk (zU (by repeat (first | (with_reducible first | exact HB.out | apply zF | apply zD | apply zE | refine zJ ?_ GE108.out) | exact HB.out)) hb)
                       clear BK108
                       clear HB
                       have BK108 := n0_
                       have HB := n1_
                       clear n0_ n1_
                       (try clear hb)
                       (try clear hb2)
                       (try clear hk)
                       (try clear hi)
                       refine hK.out _ _ trivial (fun hHeld => ?_)
                       clear hK K
                       refine norm_ (a' := ?_) ?_ ?_
                       rotate_left
                       ·show Act.put _ (some 11) _ = _
                        simp only [Act.put, zA, zB, zC, i64_w, i32_w]
                        rfl
                       exact norm_ (by first | (simp only [putAll, Act.put, zA, zB, zC]; done) | (simp only [putAll, Act.put, zA, zB, zC]; rfl)) (hJ2 () _ ⟨(by (with_reducible repeat (first | refine zH ?_ _ | refine zI ?_ | refine zG ?_ _)); exact BK108.out), (by repeat (first | (with_reducible first | exact HB.out | apply zF | apply zD | apply zE | refine zJ ?_ GE108.out) | exact HB.out))⟩)
                      ·skip
                       refine box_step ?hg (N := 4) ?hd (cs := #[.int .i64 0, .int .i64 0, .int .i64 0, .int .i64 0, .int .i64 0, .int .i64 0, .int .i64 0, .int .i64 0, .int .i64 0]) (t := 48) ?hr ?_; (case hd => rfl); (case hg => rfl); (case hr => first | (go_simp; done) | (go_simp; rfl))
                       intro gb118 hg w33 hbox hb
                       have n0_ := Aside0.mk (blk_below (g := gb108) (o := .cells #[.int .i64 0, .int .i64 0, .int .i64 0, .int .i64 0, .int .i64 0, .int .i64 0, .int .i64 0, .int .i64 0, .int .i64 0] 48 (0, 0)) (by (with_reducible repeat (first | refine zH ?_ _ | refine zI ?_ | refine zG ?_ _)); exact BK108.out) hb)
                       have n1_ := Aside0.mk (zU (by repeat (first | (with_reducible first | exact HB.out | apply zF | apply zD | apply zE | refine zJ ?_ GE108.out) | exact HB.out)) hb)
                       have n2_ := Aside0.mk (hbox)
                       have n3_ := Aside0.mk ((by rw [hg]; exact (zT (by repeat (first | (with_reducible first | exact HB.out | apply zF | apply zD | apply zE | refine zJ ?_ GE108.out) | exact HB.out))) : w.heap.size ≤ gb118))
                       have n4_ := Aside0.mk ((by rw [hg]; exact (zT (by repeat (first | (with_reducible first | exact HB.out | apply zF | apply zD | apply zE | refine zJ ?_ GE108.out) | exact HB.out))) : w.heap.size ≤ gb118))
                       have n5_ := Aside0.mk ((by rw [hg]; exact Nat.ne_of_lt (blk_lt (g := gb108) (o := .cells #[.int .i64 0, .int .i64 0, .int .i64 0, .int .i64 0, .int .i64 0, .int .i64 0, .int .i64 0, .int .i64 0, .int .i64 0] 48 (0, 0)) (by (with_reducible repeat (first | refine zH ?_ _ | refine zI ?_ | refine zG ?_ _)); exact BK108.out)) : gb108 ≠ gb118))
                       have n6_ := Aside0.mk ((by rw [hg]; exact Nat.ne_of_gt (blk_lt (g := gb108) (o := .cells #[.int .i64 0, .int .i64 0, .int .i64 0, .int .i64 0, .int .i64 0, .int .i64 0, .int .i64 0, .int .i64 0, .int .i64 0] 48 (0, 0)) (by (with_reducible repeat (first | refine zH ?_ _ | refine zI ?_ | refine zG ?_ _)); exact BK108.out)) : gb118 ≠ gb108))
                       clear BK108
                       clear HB
                       have BK108 := n0_
                       have HB := n1_
                       have BK118 := n2_
                       have GW118 := n3_
                       have GE118 := n4_
                       have NB108_118 := n5_
                       have NB118_108 := n6_
                       clear n0_ n1_ n2_ n3_ n4_ n5_ n6_
                       clear hb hbox hg
                       refine hK.out _ _ trivial (fun hHeld => ?_)
                       clear hK K
                       refine norm_ (a' := ?_) ?_ ?_
                       rotate_left
                       ·show Act.put _ (some 4) _ = _
                        simp only [Act.put, zA, zB, zC, i64_w, i32_w]
                        rfl
                       exact norm_ (by first | (simp only [putAll, Act.put, zA, zB, zC]; done) | (simp only [putAll, Act.put, zA, zB, zC]; rfl)) (hJ28 (gb118) _ ⟨(by (with_reducible repeat (first | refine zH ?_ _ | refine zI ?_ | refine zG ?_ _)); exact BK108.out), (by (with_reducible repeat (first | refine zH ?_ _ | refine zI ?_ | refine zG ?_ _)); exact BK118.out), GW118.out, GE118.out, NB108_118.out, NB118_108.out, (by repeat (first | (with_reducible first | exact HB.out | apply zF | apply zD | apply zE | refine zJ ?_ GE108.out | refine zJ ?_ GE118.out) | exact HB.out))⟩)
                     ·skip
                      rintro gb118 w34 ⟨h0_, h1_, h2_, h3_, h4_, h5_, h6_⟩
                      have n0_ : Aside0 (w34.heap[gb108]? = some (.cells #[.int .i64 0, .int .i64 0, .int .i64 0, .int .i64 0, .int .i64 0, .int .i64 0, .int .i64 0, .int .i64 0, .int .i64 0] 48 (0, 0))) := ⟨h0_⟩
                      have n1_ : Aside0 (w34.heap[gb118]? = some (.cells #[.int .i64 0, .int .i64 0, .int .i64 0, .int .i64 0, .int .i64 0, .int .i64 0, .int .i64 0, .int .i64 0, .int .i64 0] 48 (0, 0))) := ⟨h1_⟩
                      have n2_ : Aside0 (w.heap.size ≤ gb118) := ⟨h2_⟩
                      have n3_ : Aside0 (w.heap.size ≤ gb118) := ⟨h3_⟩
                      have n4_ : Aside0 (gb108 ≠ gb118) := ⟨h4_⟩
                      have n5_ : Aside0 (gb118 ≠ gb108) := ⟨h5_⟩
                      have n6_ : Aside0 (Below w.heap.size w w34) := ⟨h6_⟩
                      clear BK108
                      clear HB
                      clear h0_ h1_ h2_ h3_ h4_ h5_ h6_
                      have BK108 := n0_
                      have BK118 := n1_
                      have GW118 := n2_
                      have GE118 := n3_
                      have NB108_118 := n4_
                      have NB118_108 := n5_
                      have HB := n6_
                      clear n0_ n1_ n2_ n3_ n4_ n5_ n6_
                      have hHeld := trivial
                      refine norm_ (a' := ?_) ?_ ?_
                      rotate_left
                      ·simp only [putAll, Act.put, zA, zB, zC]
                       rfl
                      refine one_ (i := 2) (N := some 11) #[true, true, true, true, true, false, true, true, false, true, true, false, true, true, false, true, true, false, true, true, false, true, true, false, true, true, false, false, true, false] rfl rfl (one_of HT_.out (by kernel_rfl)) (by decide) (fun K hK => ?_)
                      refine goes_ Try.func44 (by kernel_rfl) rfl #[.string (a0.extract 0 6)] (by rfl) rfl rfl (by (try simp only [zO, zP, zQ]); first | done | rfl | (simp only [zS, zR]; rfl)) ?_
                      with_reducible refine (audit_get.calls k (a0.extract 0 6) t109 _ A5.out).mono ?_
                      rintro e w35 ⟨rfl, hb⟩
                      refine ⟨_, rfl, ?_⟩
                      have n0_ := Aside0.mk (blk_below (g := gb108) (o := .cells #[.int .i64 0, .int .i64 0, .int .i64 0, .int .i64 0, .int .i64 0, .int .i64 0, .int .i64 0, .int .i64 0, .int .i64 0] 48 (0, 0)) (by (with_reducible repeat (first | refine zH ?_ _ | refine zI ?_ | refine zG ?_ _)); exact BK108.out) hb)
                      have n1_ := Aside0.mk (blk_below (g := gb118) (o := .cells #[.int .i64 0, .int .i64 0, .int .i64 0, .int .i64 0, .int .i64 0, .int .i64 0, .int .i64 0, .int .i64 0, .int .i64 0] 48 (0, 0)) (by (with_reducible repeat (first | refine zH ?_ _ | refine zI ?_ | refine zG ?_ _)); exact BK118.out) hb)
                      have n2_ := Aside0.mk (zU (by repeat (first | (with_reducible first | exact HB.out | apply zF | apply zD | apply zE | refine zJ ?_ GE108.out | refine zJ ?_ GE118.out) | exact HB.out)) hb)
                      clear BK108
                      clear BK118
                      clear HB
                      have BK108 := n0_
                      have BK118 := n1_
                      have HB := n2_
                      clear n0_ n1_ n2_
                      (try clear hb)
                      (try clear hb2)
                      (try clear hk)
                      (try clear hi)
                      refine hK.out _ _ trivial (fun hHeld => ?_)
                      clear hK K
                      refine norm_ (a' := ?_) ?_ ?_
                      rotate_left
                      ·show Act.put _ (some 11) _ = _
                       simp only [Act.put, zA, zB, zC, i64_w, i32_w]
                       rfl
                      exact norm_ (by first | (simp only [putAll, Act.put, zA, zB, zC]; done) | (simp only [putAll, Act.put, zA, zB, zC]; rfl)) (hJ2_28 (gb118) _ ⟨(by (with_reducible repeat (first | refine zH ?_ _ | refine zI ?_ | refine zG ?_ _)); exact BK108.out), (by (with_reducible repeat (first | refine zH ?_ _ | refine zI ?_ | refine zG ?_ _)); exact BK118.out), GW118.out, GE118.out, NB108_118.out, NB118_108.out, (by repeat (first | (with_reducible first | exact HB.out | apply zF | apply zD | apply zE | refine zJ ?_ GE108.out | refine zJ ?_ GE118.out) | exact HB.out))⟩)
                    ·skip
                     rintro _ w34 ⟨h0_, h1_⟩
                     have n0_ : Aside0 (w34.heap[gb108]? = some (.cells #[.int .i64 0, .int .i64 0, .int .i64 0, .int .i64 0, .int .i64 0, .int .i64 0, .int .i64 0, .int .i64 0, .int .i64 0] 48 (0, 0))) := ⟨h0_⟩
                     have n1_ : Aside0 (Below w.heap.size w w34) := ⟨h1_⟩
                     clear BK108
                     clear HB
                     clear h0_ h1_
                     have BK108 := n0_
                     have HB := n1_
                     clear n0_ n1_
                     have hHeld := trivial
                     refine norm_ (a' := ?_) ?_ ?_
                     rotate_left
                     ·simp only [putAll, Act.put, zA, zB, zC]
                      rfl
                     refine two_ (i := 5) (j := 28) (Ni := some 14) (Nj := some 4) #[true, true, true, true, true, true, true, true, false, true, true, false, true, true, false, true, true, false, true, true, false, true, true, false, true, true, false, false, false, false] #[true, true, true, true, true, false, true, true, false, true, true, false, true, true, false, true, true, false, true, true, false, true, true, false, true, true, false, false, true, false] rfl rfl rfl rfl (two_of HT_.out (by kernel_rfl)) (by decide) (by decide) (fun K hK => ?_) (fun K hK => ?_)
                     ·skip
                      refine goes_ Try.func44 (by kernel_rfl) rfl #[.string (a0.extract 6 12)] (by rfl) rfl rfl (by (try simp only [zO, zP, zQ]); first | done | rfl | (simp only [zS, zR]; rfl)) ?_
                      with_reducible refine (audit_get.calls k (a0.extract 6 12) t110 _ A8.out).mono ?_
                      rintro e w35 ⟨rfl, hb⟩
                      refine ⟨_, rfl, ?_⟩
                      have n0_ := Aside0.mk (blk_below (g := gb108) (o := .cells #[.int .i64 0, .int .i64 0, .int .i64 0, .int .i64 0, .int .i64 0, .int .i64 0, .int .i64 0, .int .i64 0, .int .i64 0] 48 (0, 0)) (by (with_reducible repeat (first | refine zH ?_ _ | refine zI ?_ | refine zG ?_ _)); exact BK108.out) hb)
                      have n1_ := Aside0.mk (zU (by repeat (first | (with_reducible first | exact HB.out | apply zF | apply zD | apply zE | refine zJ ?_ GE108.out) | exact HB.out)) hb)
                      clear BK108
                      clear HB
                      have BK108 := n0_
                      have HB := n1_
                      clear n0_ n1_
                      (try clear hb)
                      (try clear hb2)
                      (try clear hk)
                      (try clear hi)
                      refine hK.out _ _ trivial (fun hHeld => ?_)
                      clear hK K
                      refine norm_ (a' := ?_) ?_ ?_
                      rotate_left
                      ·show Act.put _ (some 14) _ = _
                       simp only [Act.put, zA, zB, zC, i64_w, i32_w]
                       rfl
                      exact norm_ (by first | (simp only [putAll, Act.put, zA, zB, zC]; done) | (simp only [putAll, Act.put, zA, zB, zC]; rfl)) (hJ2_5 () _ ⟨(by (with_reducible repeat (first | refine zH ?_ _ | refine zI ?_ | refine zG ?_ _)); exact BK108.out), (by repeat (first | (with_reducible first | exact HB.out | apply zF | apply zD | apply zE | refine zJ ?_ GE108.out) | exact HB.out))⟩)
                     ·skip
                      refine box_step ?hg (N := 4) ?hd (cs := #[.int .i64 0, .int .i64 0, .int .i64 0, .int .i64 0, .int .i64 0, .int .i64 0, .int .i64 0, .int .i64 0, .int .i64 0]) (t := 48) ?hr ?_; (case hd => rfl); (case hg => rfl); (case hr => first | (go_simp; done) | (go_simp; rfl))
                      intro gb118 hg w35 hbox hb
                      have n0_ := Aside0.mk (blk_below (g := gb108) (o := .cells #[.int .i64 0, .int .i64 0, .int .i64 0, .int .i64 0, .int .i64 0, .int .i64 0, .int .i64 0, .int .i64 0, .int .i64 0] 48 (0, 0)) (by (with_reducible repeat (first | refine zH ?_ _ | refine zI ?_ | refine zG ?_ _)); exact BK108.out) hb)
                      have n1_ := Aside0.mk (zU (by repeat (first | (with_reducible first | exact HB.out | apply zF | apply zD | apply zE | refine zJ ?_ GE108.out) | exact HB.out)) hb)
                      have n2_ := Aside0.mk (hbox)
                      have n3_ := Aside0.mk ((by rw [hg]; exact (zT (by repeat (first | (with_reducible first | exact HB.out | apply zF | apply zD | apply zE | refine zJ ?_ GE108.out) | exact HB.out))) : w.heap.size ≤ gb118))
                      have n4_ := Aside0.mk ((by rw [hg]; exact (zT (by repeat (first | (with_reducible first | exact HB.out | apply zF | apply zD | apply zE | refine zJ ?_ GE108.out) | exact HB.out))) : w.heap.size ≤ gb118))
                      have n5_ := Aside0.mk ((by rw [hg]; exact Nat.ne_of_lt (blk_lt (g := gb108) (o := .cells #[.int .i64 0, .int .i64 0, .int .i64 0, .int .i64 0, .int .i64 0, .int .i64 0, .int .i64 0, .int .i64 0, .int .i64 0] 48 (0, 0)) (by (with_reducible repeat (first | refine zH ?_ _ | refine zI ?_ | refine zG ?_ _)); exact BK108.out)) : gb108 ≠ gb118))
                      have n6_ := Aside0.mk ((by rw [hg]; exact Nat.ne_of_gt (blk_lt (g := gb108) (o := .cells #[.int .i64 0, .int .i64 0, .int .i64 0, .int .i64 0, .int .i64 0, .int .i64 0, .int .i64 0, .int .i64 0, .int .i64 0] 48 (0, 0)) (by (with_reducible repeat (first | refine zH ?_ _ | refine zI ?_ | refine zG ?_ _)); exact BK108.out)) : gb118 ≠ gb108))
                      clear BK108
                      clear HB
                      have BK108 := n0_
                      have HB := n1_
                      have BK118 := n2_
                      have GW118 := n3_
                      have GE118 := n4_
                      have NB108_118 := n5_
                      have NB118_108 := n6_
                      clear n0_ n1_ n2_ n3_ n4_ n5_ n6_
                      clear hb hbox hg
                      refine hK.out _ _ trivial (fun hHeld => ?_)
                      clear hK K
                      refine norm_ (a' := ?_) ?_ ?_
                      rotate_left
                      ·show Act.put _ (some 4) _ = _
                       simp only [Act.put, zA, zB, zC, i64_w, i32_w]
                       rfl
                      exact norm_ (by first | (simp only [putAll, Act.put, zA, zB, zC]; done) | (simp only [putAll, Act.put, zA, zB, zC]; rfl)) (hJ2_28 (gb118) _ ⟨(by (with_reducible repeat (first | refine zH ?_ _ | refine zI ?_ | refine zG ?_ _)); exact BK108.out), (by (with_reducible repeat (first | refine zH ?_ _ | refine zI ?_ | refine zG ?_ _)); exact BK118.out), GW118.out, GE118.out, NB108_118.out, NB118_108.out, (by repeat (first | (with_reducible first | exact HB.out | apply zF | apply zD | apply zE | refine zJ ?_ GE108.out | refine zJ ?_ GE118.out) | exact HB.out))⟩)
                   ·skip
                    rintro gb118 w35 ⟨h0_, h1_, h2_, h3_, h4_, h5_, h6_⟩
                    have n0_ : Aside0 (w35.heap[gb108]? = some (.cells #[.int .i64 0, .int .i64 0, .int .i64 0, .int .i64 0, .int .i64 0, .int .i64 0, .int .i64 0, .int .i64 0, .int .i64 0] 48 (0, 0))) := ⟨h0_⟩
                    have n1_ : Aside0 (w35.heap[gb118]? = some (.cells #[.int .i64 0, .int .i64 0, .int .i64 0, .int .i64 0, .int .i64 0, .int .i64 0, .int .i64 0, .int .i64 0, .int .i64 0] 48 (0, 0))) := ⟨h1_⟩
                    have n2_ : Aside0 (w.heap.size ≤ gb118) := ⟨h2_⟩
                    have n3_ : Aside0 (w.heap.size ≤ gb118) := ⟨h3_⟩
                    have n4_ : Aside0 (gb108 ≠ gb118) := ⟨h4_⟩
                    have n5_ : Aside0 (gb118 ≠ gb108) := ⟨h5_⟩
                    have n6_ : Aside0 (Below w.heap.size w w35) := ⟨h6_⟩
                    clear BK108
                    clear HB
                    clear h0_ h1_ h2_ h3_ h4_ h5_ h6_
                    have BK108 := n0_
                    have BK118 := n1_
                    have GW118 := n2_
                    have GE118 := n3_
                    have NB108_118 := n4_
                    have NB118_108 := n5_
                    have HB := n6_
                    clear n0_ n1_ n2_ n3_ n4_ n5_ n6_
                    have hHeld := trivial
                    refine norm_ (a' := ?_) ?_ ?_
                    rotate_left
                    ·simp only [putAll, Act.put, zA, zB, zC]
                     rfl
                    refine one_ (i := 5) (N := some 14) #[true, true, true, true, true, true, true, true, false, true, true, false, true, true, false, true, true, false, true, true, false, true, true, false, true, true, false, false, true, false] rfl rfl (one_of HT_.out (by kernel_rfl)) (by decide) (fun K hK => ?_)
                    refine goes_ Try.func44 (by kernel_rfl) rfl #[.string (a0.extract 6 12)] (by rfl) rfl rfl (by (try simp only [zO, zP, zQ]); first | done | rfl | (simp only [zS, zR]; rfl)) ?_
                    with_reducible refine (audit_get.calls k (a0.extract 6 12) t110 _ A8.out).mono ?_
                    rintro e w36 ⟨rfl, hb⟩
                    refine ⟨_, rfl, ?_⟩
                    have n0_ := Aside0.mk (blk_below (g := gb108) (o := .cells #[.int .i64 0, .int .i64 0, .int .i64 0, .int .i64 0, .int .i64 0, .int .i64 0, .int .i64 0, .int .i64 0, .int .i64 0] 48 (0, 0)) (by (with_reducible repeat (first | refine zH ?_ _ | refine zI ?_ | refine zG ?_ _)); exact BK108.out) hb)
                    have n1_ := Aside0.mk (blk_below (g := gb118) (o := .cells #[.int .i64 0, .int .i64 0, .int .i64 0, .int .i64 0, .int .i64 0, .int .i64 0, .int .i64 0, .int .i64 0, .int .i64 0] 48 (0, 0)) (by (with_reducible repeat (first | refine zH ?_ _ | refine zI ?_ | refine zG ?_ _)); exact BK118.out) hb)
                    have n2_ := Aside0.mk (zU (by repeat (first | (with_reducible first | exact HB.out | apply zF | apply zD | apply zE | refine zJ ?_ GE108.out | refine zJ ?_ GE118.out) | exact HB.out)) hb)
                    clear BK108
                    clear BK118
                    clear HB
                    have BK108 := n0_
                    have BK118 := n1_
                    have HB := n2_
                    clear n0_ n1_ n2_
                    (try clear hb)
                    (try clear hb2)
                    (try clear hk)
                    (try clear hi)
                    refine hK.out _ _ trivial (fun hHeld => ?_)
                    clear hK K
                    refine norm_ (a' := ?_) ?_ ?_
                    rotate_left
                    ·show Act.put _ (some 14) _ = _
                     simp only [Act.put, zA, zB, zC, i64_w, i32_w]
                     rfl
                    exact norm_ (by first | (simp only [putAll, Act.put, zA, zB, zC]; done) | (simp only [putAll, Act.put, zA, zB, zC]; rfl)) (hJ2_5_28 (gb118) _ ⟨(by (with_reducible repeat (first | refine zH ?_ _ | refine zI ?_ | refine zG ?_ _)); exact BK108.out), (by (with_reducible repeat (first | refine zH ?_ _ | refine zI ?_ | refine zG ?_ _)); exact BK118.out), GW118.out, GE118.out, NB108_118.out, NB118_108.out, (by repeat (first | (with_reducible first | exact HB.out | apply zF | apply zD | apply zE | refine zJ ?_ GE108.out | refine zJ ?_ GE118.out) | exact HB.out))⟩)
                  ·skip
                   rintro _ w35 ⟨h0_, h1_⟩
                   have n0_ : Aside0 (w35.heap[gb108]? = some (.cells #[.int .i64 0, .int .i64 0, .int .i64 0, .int .i64 0, .int .i64 0, .int .i64 0, .int .i64 0, .int .i64 0, .int .i64 0] 48 (0, 0))) := ⟨h0_⟩
                   have n1_ : Aside0 (Below w.heap.size w w35) := ⟨h1_⟩
                   clear BK108
                   clear HB
                   clear h0_ h1_
                   have BK108 := n0_
                   have HB := n1_
                   clear n0_ n1_
                   have hHeld := trivial
                   refine norm_ (a' := ?_) ?_ ?_
                   rotate_left
                   ·simp only [putAll, Act.put, zA, zB, zC]
                    rfl
                   refine two_ (i := 8) (j := 28) (Ni := some 17) (Nj := some 4) #[true, true, true, true, true, true, true, true, true, true, true, false, true, true, false, true, true, false, true, true, false, true, true, false, true, true, false, false, false, false] #[true, true, true, true, true, true, true, true, false, true, true, false, true, true, false, true, true, false, true, true, false, true, true, false, true, true, false, false, true, false] rfl rfl rfl rfl (two_of HT_.out (by kernel_rfl)) (by decide) (by decide) (fun K hK => ?_) (fun K hK => ?_)
                   ·skip
                    refine goes_ Try.func44 (by kernel_rfl) rfl #[.string (a0.extract 12 13)] (by rfl) rfl rfl (by (try simp only [zO, zP, zQ]); first | done | rfl | (simp only [zS, zR]; rfl)) ?_
                    with_reducible refine (audit_get.calls k (a0.extract 12 13) t111 _ A11.out).mono ?_
                    rintro e w36 ⟨rfl, hb⟩
                    refine ⟨_, rfl, ?_⟩
                    have n0_ := Aside0.mk (blk_below (g := gb108) (o := .cells #[.int .i64 0, .int .i64 0, .int .i64 0, .int .i64 0, .int .i64 0, .int .i64 0, .int .i64 0, .int .i64 0, .int .i64 0] 48 (0, 0)) (by (with_reducible repeat (first | refine zH ?_ _ | refine zI ?_ | refine zG ?_ _)); exact BK108.out) hb)
                    have n1_ := Aside0.mk (zU (by repeat (first | (with_reducible first | exact HB.out | apply zF | apply zD | apply zE | refine zJ ?_ GE108.out) | exact HB.out)) hb)
                    clear BK108
                    clear HB
                    have BK108 := n0_
                    have HB := n1_
                    clear n0_ n1_
                    (try clear hb)
                    (try clear hb2)
                    (try clear hk)
                    (try clear hi)
                    refine hK.out _ _ trivial (fun hHeld => ?_)
                    clear hK K
                    refine norm_ (a' := ?_) ?_ ?_
                    rotate_left
                    ·show Act.put _ (some 17) _ = _
                     simp only [Act.put, zA, zB, zC, i64_w, i32_w]
                     rfl
                    exact norm_ (by first | (simp only [putAll, Act.put, zA, zB, zC]; done) | (simp only [putAll, Act.put, zA, zB, zC]; rfl)) (hJ2_5_8 () _ ⟨(by (with_reducible repeat (first | refine zH ?_ _ | refine zI ?_ | refine zG ?_ _)); exact BK108.out), (by repeat (first | (with_reducible first | exact HB.out | apply zF | apply zD | apply zE | refine zJ ?_ GE108.out) | exact HB.out))⟩)
                   ·skip
                    refine box_step ?hg (N := 4) ?hd (cs := #[.int .i64 0, .int .i64 0, .int .i64 0, .int .i64 0, .int .i64 0, .int .i64 0, .int .i64 0, .int .i64 0, .int .i64 0]) (t := 48) ?hr ?_; (case hd => rfl); (case hg => rfl); (case hr => first | (go_simp; done) | (go_simp; rfl))
                    intro gb118 hg w36 hbox hb
                    have n0_ := Aside0.mk (blk_below (g := gb108) (o := .cells #[.int .i64 0, .int .i64 0, .int .i64 0, .int .i64 0, .int .i64 0, .int .i64 0, .int .i64 0, .int .i64 0, .int .i64 0] 48 (0, 0)) (by (with_reducible repeat (first | refine zH ?_ _ | refine zI ?_ | refine zG ?_ _)); exact BK108.out) hb)
                    have n1_ := Aside0.mk (zU (by repeat (first | (with_reducible first | exact HB.out | apply zF | apply zD | apply zE | refine zJ ?_ GE108.out) | exact HB.out)) hb)
                    have n2_ := Aside0.mk (hbox)
                    have n3_ := Aside0.mk ((by rw [hg]; exact (zT (by repeat (first | (with_reducible first | exact HB.out | apply zF | apply zD | apply zE | refine zJ ?_ GE108.out) | exact HB.out))) : w.heap.size ≤ gb118))
                    have n4_ := Aside0.mk ((by rw [hg]; exact (zT (by repeat (first | (with_reducible first | exact HB.out | apply zF | apply zD | apply zE | refine zJ ?_ GE108.out) | exact HB.out))) : w.heap.size ≤ gb118))
                    have n5_ := Aside0.mk ((by rw [hg]; exact Nat.ne_of_lt (blk_lt (g := gb108) (o := .cells #[.int .i64 0, .int .i64 0, .int .i64 0, .int .i64 0, .int .i64 0, .int .i64 0, .int .i64 0, .int .i64 0, .int .i64 0] 48 (0, 0)) (by (with_reducible repeat (first | refine zH ?_ _ | refine zI ?_ | refine zG ?_ _)); exact BK108.out)) : gb108 ≠ gb118))
                    have n6_ := Aside0.mk ((by rw [hg]; exact Nat.ne_of_gt (blk_lt (g := gb108) (o := .cells #[.int .i64 0, .int .i64 0, .int .i64 0, .int .i64 0, .int .i64 0, .int .i64 0, .int .i64 0, .int .i64 0, .int .i64 0] 48 (0, 0)) (by (with_reducible repeat (first | refine zH ?_ _ | refine zI ?_ | refine zG ?_ _)); exact BK108.out)) : gb118 ≠ gb108))
                    clear BK108
                    clear HB
                    have BK108 := n0_
                    have HB := n1_
                    have BK118 := n2_
                    have GW118 := n3_
                    have GE118 := n4_
                    have NB108_118 := n5_
                    have NB118_108 := n6_
                    clear n0_ n1_ n2_ n3_ n4_ n5_ n6_
                    clear hb hbox hg
                    refine hK.out _ _ trivial (fun hHeld => ?_)
                    clear hK K
                    refine norm_ (a' := ?_) ?_ ?_
                    rotate_left
                    ·show Act.put _ (some 4) _ = _
                     simp only [Act.put, zA, zB, zC, i64_w, i32_w]
                     rfl
                    exact norm_ (by first | (simp only [putAll, Act.put, zA, zB, zC]; done) | (simp only [putAll, Act.put, zA, zB, zC]; rfl)) (hJ2_5_28 (gb118) _ ⟨(by (with_reducible repeat (first | refine zH ?_ _ | refine zI ?_ | refine zG ?_ _)); exact BK108.out), (by (with_reducible repeat (first | refine zH ?_ _ | refine zI ?_ | refine zG ?_ _)); exact BK118.out), GW118.out, GE118.out, NB108_118.out, NB118_108.out, (by repeat (first | (with_reducible first | exact HB.out | apply zF | apply zD | apply zE | refine zJ ?_ GE108.out | refine zJ ?_ GE118.out) | exact HB.out))⟩)
                 ·skip
                  rintro gb118 w36 ⟨h0_, h1_, h2_, h3_, h4_, h5_, h6_⟩
                  have n0_ : Aside0 (w36.heap[gb108]? = some (.cells #[.int .i64 0, .int .i64 0, .int .i64 0, .int .i64 0, .int .i64 0, .int .i64 0, .int .i64 0, .int .i64 0, .int .i64 0] 48 (0, 0))) := ⟨h0_⟩
                  have n1_ : Aside0 (w36.heap[gb118]? = some (.cells #[.int .i64 0, .int .i64 0, .int .i64 0, .int .i64 0, .int .i64 0, .int .i64 0, .int .i64 0, .int .i64 0, .int .i64 0] 48 (0, 0))) := ⟨h1_⟩
                  have n2_ : Aside0 (w.heap.size ≤ gb118) := ⟨h2_⟩
                  have n3_ : Aside0 (w.heap.size ≤ gb118) := ⟨h3_⟩
                  have n4_ : Aside0 (gb108 ≠ gb118) := ⟨h4_⟩
                  have n5_ : Aside0 (gb118 ≠ gb108) := ⟨h5_⟩
                  have n6_ : Aside0 (Below w.heap.size w w36) := ⟨h6_⟩
                  clear BK108
                  clear HB
                  clear h0_ h1_ h2_ h3_ h4_ h5_ h6_
                  have BK108 := n0_
                  have BK118 := n1_
                  have GW118 := n2_
                  have GE118 := n3_
                  have NB108_118 := n4_
                  have NB118_108 := n5_
                  have HB := n6_
                  clear n0_ n1_ n2_ n3_ n4_ n5_ n6_
                  have hHeld := trivial
                  refine norm_ (a' := ?_) ?_ ?_
                  rotate_left
                  ·simp only [putAll, Act.put, zA, zB, zC]
                   rfl
                  refine one_ (i := 8) (N := some 17) #[true, true, true, true, true, true, true, true, true, true, true, false, true, true, false, true, true, false, true, true, false, true, true, false, true, true, false, false, true, false] rfl rfl (one_of HT_.out (by kernel_rfl)) (by decide) (fun K hK => ?_)
                  refine goes_ Try.func44 (by kernel_rfl) rfl #[.string (a0.extract 12 13)] (by rfl) rfl rfl (by (try simp only [zO, zP, zQ]); first | done | rfl | (simp only [zS, zR]; rfl)) ?_
                  with_reducible refine (audit_get.calls k (a0.extract 12 13) t111 _ A11.out).mono ?_
                  rintro e w37 ⟨rfl, hb⟩
                  refine ⟨_, rfl, ?_⟩
                  have n0_ := Aside0.mk (blk_below (g := gb108) (o := .cells #[.int .i64 0, .int .i64 0, .int .i64 0, .int .i64 0, .int .i64 0, .int .i64 0, .int .i64 0, .int .i64 0, .int .i64 0] 48 (0, 0)) (by (with_reducible repeat (first | refine zH ?_ _ | refine zI ?_ | refine zG ?_ _)); exact BK108.out) hb)
                  have n1_ := Aside0.mk (blk_below (g := gb118) (o := .cells #[.int .i64 0, .int .i64 0, .int .i64 0, .int .i64 0, .int .i64 0, .int .i64 0, .int .i64 0, .int .i64 0, .int .i64 0] 48 (0, 0)) (by (with_reducible repeat (first | refine zH ?_ _ | refine zI ?_ | refine zG ?_ _)); exact BK118.out) hb)
                  have n2_ := Aside0.mk (zU (by repeat (first | (with_reducible first | exact HB.out | apply zF | apply zD | apply zE | refine zJ ?_ GE108.out | refine zJ ?_ GE118.out) | exact HB.out)) hb)
                  clear BK108
                  clear BK118
                  clear HB
                  have BK108 := n0_
                  have BK118 := n1_
                  have HB := n2_
                  clear n0_ n1_ n2_
                  (try clear hb)
                  (try clear hb2)
                  (try clear hk)
                  (try clear hi)
                  refine hK.out _ _ trivial (fun hHeld => ?_)
                  clear hK K
                  refine norm_ (a' := ?_) ?_ ?_
                  rotate_left
                  ·show Act.put _ (some 17) _ = _
                   simp only [Act.put, zA, zB, zC, i64_w, i32_w]
                   rfl
                  exact norm_ (by first | (simp only [putAll, Act.put, zA, zB, zC]; done) | (simp only [putAll, Act.put, zA, zB, zC]; rfl)) (hJ2_5_8_28 (gb118) _ ⟨(by (with_reducible repeat (first | refine zH ?_ _ | refine zI ?_ | refine zG ?_ _)); exact BK108.out), (by (with_reducible repeat (first | refine zH ?_ _ | refine zI ?_ | refine zG ?_ _)); exact BK118.out), GW118.out, GE118.out, NB108_118.out, NB118_108.out, (by repeat (first | (with_reducible first | exact HB.out | apply zF | apply zD | apply zE | refine zJ ?_ GE108.out | refine zJ ?_ GE118.out) | exact HB.out))⟩)
                ·skip
                 rintro _ w36 ⟨h0_, h1_⟩
                 have n0_ : Aside0 (w36.heap[gb108]? = some (.cells #[.int .i64 0, .int .i64 0, .int .i64 0, .int .i64 0, .int .i64 0, .int .i64 0, .int .i64 0, .int .i64 0, .int .i64 0] 48 (0, 0))) := ⟨h0_⟩
                 have n1_ : Aside0 (Below w.heap.size w w36) := ⟨h1_⟩
                 clear BK108
                 clear HB
                 clear h0_ h1_
                 have BK108 := n0_
                 have HB := n1_
                 clear n0_ n1_
                 have hHeld := trivial
                 refine norm_ (a' := ?_) ?_ ?_
                 rotate_left
                 ·simp only [putAll, Act.put, zA, zB, zC]
                  rfl
                 refine two_ (i := 11) (j := 28) (Ni := some 20) (Nj := some 4) #[true, true, true, true, true, true, true, true, true, true, true, true, true, true, false, true, true, false, true, true, false, true, true, false, true, true, false, false, false, false] #[true, true, true, true, true, true, true, true, true, true, true, false, true, true, false, true, true, false, true, true, false, true, true, false, true, true, false, false, true, false] rfl rfl rfl rfl (two_of HT_.out (by kernel_rfl)) (by decide) (by decide) (fun K hK => ?_) (fun K hK => ?_)
                 ·skip
                  refine goes_ Try.func45 (by kernel_rfl) rfl #[.int .u8 (bt a0 13)] (by rfl) rfl rfl (by (try simp only [zO, zP, zQ]); first | done | rfl | (simp only [zS, zR]; rfl)) ?_
                  with_reducible refine (audit_signed.calls (bt a0 13) t112 _ A14.out).mono ?_
                  rintro e w' ⟨rfl, ⟨nd, rfl⟩⟩
                  refine ⟨_, rfl, ?_⟩
                  refine hK.out _ _ trivial (fun hHeld => ?_)
                  clear hK K
                  refine norm_ (a' := ?_) ?_ ?_
                  rotate_left
                  ·show Act.put _ (some 20) _ = _
                   simp only [Act.put, zA, zB, zC, i64_w, i32_w]
                   rfl
                  exact norm_ (by first | (simp only [putAll, Act.put, zA, zB, zC]; done) | (simp only [putAll, Act.put, zA, zB, zC]; rfl)) (hJ2_5_8_11 () _ ⟨(by (with_reducible repeat (first | refine zH ?_ _ | refine zI ?_ | refine zG ?_ _)); exact BK108.out), (by repeat (first | (with_reducible first | exact HB.out | apply zF | apply zD | apply zE | refine zJ ?_ GE108.out) | exact HB.out))⟩)
                 ·skip
                  refine box_step ?hg (N := 4) ?hd (cs := #[.int .i64 0, .int .i64 0, .int .i64 0, .int .i64 0, .int .i64 0, .int .i64 0, .int .i64 0, .int .i64 0, .int .i64 0]) (t := 48) ?hr ?_; (case hd => rfl); (case hg => rfl); (case hr => first | (go_simp; done) | (go_simp; rfl))
                  intro gb118 hg w37 hbox hb
                  have n0_ := Aside0.mk (blk_below (g := gb108) (o := .cells #[.int .i64 0, .int .i64 0, .int .i64 0, .int .i64 0, .int .i64 0, .int .i64 0, .int .i64 0, .int .i64 0, .int .i64 0] 48 (0, 0)) (by (with_reducible repeat (first | refine zH ?_ _ | refine zI ?_ | refine zG ?_ _)); exact BK108.out) hb)
                  have n1_ := Aside0.mk (zU (by repeat (first | (with_reducible first | exact HB.out | apply zF | apply zD | apply zE | refine zJ ?_ GE108.out) | exact HB.out)) hb)
                  have n2_ := Aside0.mk (hbox)
                  have n3_ := Aside0.mk ((by rw [hg]; exact (zT (by repeat (first | (with_reducible first | exact HB.out | apply zF | apply zD | apply zE | refine zJ ?_ GE108.out) | exact HB.out))) : w.heap.size ≤ gb118))
                  have n4_ := Aside0.mk ((by rw [hg]; exact (zT (by repeat (first | (with_reducible first | exact HB.out | apply zF | apply zD | apply zE | refine zJ ?_ GE108.out) | exact HB.out))) : w.heap.size ≤ gb118))
                  have n5_ := Aside0.mk ((by rw [hg]; exact Nat.ne_of_lt (blk_lt (g := gb108) (o := .cells #[.int .i64 0, .int .i64 0, .int .i64 0, .int .i64 0, .int .i64 0, .int .i64 0, .int .i64 0, .int .i64 0, .int .i64 0] 48 (0, 0)) (by (with_reducible repeat (first | refine zH ?_ _ | refine zI ?_ | refine zG ?_ _)); exact BK108.out)) : gb108 ≠ gb118))
                  have n6_ := Aside0.mk ((by rw [hg]; exact Nat.ne_of_gt (blk_lt (g := gb108) (o := .cells #[.int .i64 0, .int .i64 0, .int .i64 0, .int .i64 0, .int .i64 0, .int .i64 0, .int .i64 0, .int .i64 0, .int .i64 0] 48 (0, 0)) (by (with_reducible repeat (first | refine zH ?_ _ | refine zI ?_ | refine zG ?_ _)); exact BK108.out)) : gb118 ≠ gb108))
                  clear BK108
                  clear HB
                  have BK108 := n0_
                  have HB := n1_
                  have BK118 := n2_
                  have GW118 := n3_
                  have GE118 := n4_
                  have NB108_118 := n5_
                  have NB118_108 := n6_
                  clear n0_ n1_ n2_ n3_ n4_ n5_ n6_
                  clear hb hbox hg
                  refine hK.out _ _ trivial (fun hHeld => ?_)
                  clear hK K
                  refine norm_ (a' := ?_) ?_ ?_
                  rotate_left
                  ·show Act.put _ (some 4) _ = _
                   simp only [Act.put, zA, zB, zC, i64_w, i32_w]
                   rfl
                  exact norm_ (by first | (simp only [putAll, Act.put, zA, zB, zC]; done) | (simp only [putAll, Act.put, zA, zB, zC]; rfl)) (hJ2_5_8_28 (gb118) _ ⟨(by (with_reducible repeat (first | refine zH ?_ _ | refine zI ?_ | refine zG ?_ _)); exact BK108.out), (by (with_reducible repeat (first | refine zH ?_ _ | refine zI ?_ | refine zG ?_ _)); exact BK118.out), GW118.out, GE118.out, NB108_118.out, NB118_108.out, (by repeat (first | (with_reducible first | exact HB.out | apply zF | apply zD | apply zE | refine zJ ?_ GE108.out | refine zJ ?_ GE118.out) | exact HB.out))⟩)
               ·skip
                rintro gb118 w37 ⟨h0_, h1_, h2_, h3_, h4_, h5_, h6_⟩
                have n0_ : Aside0 (w37.heap[gb108]? = some (.cells #[.int .i64 0, .int .i64 0, .int .i64 0, .int .i64 0, .int .i64 0, .int .i64 0, .int .i64 0, .int .i64 0, .int .i64 0] 48 (0, 0))) := ⟨h0_⟩
                have n1_ : Aside0 (w37.heap[gb118]? = some (.cells #[.int .i64 0, .int .i64 0, .int .i64 0, .int .i64 0, .int .i64 0, .int .i64 0, .int .i64 0, .int .i64 0, .int .i64 0] 48 (0, 0))) := ⟨h1_⟩
                have n2_ : Aside0 (w.heap.size ≤ gb118) := ⟨h2_⟩
                have n3_ : Aside0 (w.heap.size ≤ gb118) := ⟨h3_⟩
                have n4_ : Aside0 (gb108 ≠ gb118) := ⟨h4_⟩
                have n5_ : Aside0 (gb118 ≠ gb108) := ⟨h5_⟩
                have n6_ : Aside0 (Below w.heap.size w w37) := ⟨h6_⟩
                clear BK108
                clear HB
                clear h0_ h1_ h2_ h3_ h4_ h5_ h6_
                have BK108 := n0_
                have BK118 := n1_
                have GW118 := n2_
                have GE118 := n3_
                have NB108_118 := n4_
                have NB118_108 := n5_
                have HB := n6_
                clear n0_ n1_ n2_ n3_ n4_ n5_ n6_
                have hHeld := trivial
                refine norm_ (a' := ?_) ?_ ?_
                rotate_left
                ·simp only [putAll, Act.put, zA, zB, zC]
                 rfl
                refine one_ (i := 11) (N := some 20) #[true, true, true, true, true, true, true, true, true, true, true, true, true, true, false, true, true, false, true, true, false, true, true, false, true, true, false, false, true, false] rfl rfl (one_of HT_.out (by kernel_rfl)) (by decide) (fun K hK => ?_)
                refine goes_ Try.func45 (by kernel_rfl) rfl #[.int .u8 (bt a0 13)] (by rfl) rfl rfl (by (try simp only [zO, zP, zQ]); first | done | rfl | (simp only [zS, zR]; rfl)) ?_
                with_reducible refine (audit_signed.calls (bt a0 13) t112 _ A14.out).mono ?_
                rintro e w' ⟨rfl, ⟨nd, rfl⟩⟩
                refine ⟨_, rfl, ?_⟩
                refine hK.out _ _ trivial (fun hHeld => ?_)
                clear hK K
                refine norm_ (a' := ?_) ?_ ?_
                rotate_left
                ·show Act.put _ (some 20) _ = _
                 simp only [Act.put, zA, zB, zC, i64_w, i32_w]
                 rfl
                exact norm_ (by first | (simp only [putAll, Act.put, zA, zB, zC]; done) | (simp only [putAll, Act.put, zA, zB, zC]; rfl)) (hJ2_5_8_11_28 (gb118) _ ⟨(by (with_reducible repeat (first | refine zH ?_ _ | refine zI ?_ | refine zG ?_ _)); exact BK108.out), (by (with_reducible repeat (first | refine zH ?_ _ | refine zI ?_ | refine zG ?_ _)); exact BK118.out), GW118.out, GE118.out, NB108_118.out, NB118_108.out, (by repeat (first | (with_reducible first | exact HB.out | apply zF | apply zD | apply zE | refine zJ ?_ GE108.out | refine zJ ?_ GE118.out) | exact HB.out))⟩)
              ·skip
               rintro _ w36 ⟨h0_, h1_⟩
               have n0_ : Aside0 (w36.heap[gb108]? = some (.cells #[.int .i64 0, .int .i64 0, .int .i64 0, .int .i64 0, .int .i64 0, .int .i64 0, .int .i64 0, .int .i64 0, .int .i64 0] 48 (0, 0))) := ⟨h0_⟩
               have n1_ : Aside0 (Below w.heap.size w w36) := ⟨h1_⟩
               clear BK108
               clear HB
               clear h0_ h1_
               have BK108 := n0_
               have HB := n1_
               clear n0_ n1_
               have hHeld := trivial
               refine norm_ (a' := ?_) ?_ ?_
               rotate_left
               ·simp only [putAll, Act.put, zA, zB, zC]
                rfl
               refine two_ (i := 14) (j := 28) (Ni := some 23) (Nj := some 4) #[true, true, true, true, true, true, true, true, true, true, true, true, true, true, true, true, true, false, true, true, false, true, true, false, true, true, false, false, false, false] #[true, true, true, true, true, true, true, true, true, true, true, true, true, true, false, true, true, false, true, true, false, true, true, false, true, true, false, false, true, false] rfl rfl rfl rfl (two_of HT_.out (by kernel_rfl)) (by decide) (by decide) (fun K hK => ?_) (fun K hK => ?_)
               ·skip
                refine goes_ Try.func44 (by kernel_rfl) rfl #[.string (a0.extract 14 15)] (by rfl) rfl rfl (by (try simp only [zO, zP, zQ]); first | done | rfl | (simp only [zS, zR]; rfl)) ?_
                with_reducible refine (audit_get.calls k (a0.extract 14 15) t113 _ A17.out).mono ?_
                rintro e w37 ⟨rfl, hb⟩
                refine ⟨_, rfl, ?_⟩
                have n0_ := Aside0.mk (blk_below (g := gb108) (o := .cells #[.int .i64 0, .int .i64 0, .int .i64 0, .int .i64 0, .int .i64 0, .int .i64 0, .int .i64 0, .int .i64 0, .int .i64 0] 48 (0, 0)) (by (with_reducible repeat (first | refine zH ?_ _ | refine zI ?_ | refine zG ?_ _)); exact BK108.out) hb)
                have n1_ := Aside0.mk (zU (by repeat (first | (with_reducible first | exact HB.out | apply zF | apply zD | apply zE | refine zJ ?_ GE108.out) | exact HB.out)) hb)
                clear BK108
                clear HB
                have BK108 := n0_
                have HB := n1_
                clear n0_ n1_
                (try clear hb)
                (try clear hb2)
                (try clear hk)
                (try clear hi)
                refine hK.out _ _ trivial (fun hHeld => ?_)
                clear hK K
                refine norm_ (a' := ?_) ?_ ?_
                rotate_left
                ·show Act.put _ (some 23) _ = _
                 simp only [Act.put, zA, zB, zC, i64_w, i32_w]
                 rfl
                exact norm_ (by first | (simp only [putAll, Act.put, zA, zB, zC]; done) | (simp only [putAll, Act.put, zA, zB, zC]; rfl)) (hJ2_5_8_11_14 () _ ⟨(by (with_reducible repeat (first | refine zH ?_ _ | refine zI ?_ | refine zG ?_ _)); exact BK108.out), (by repeat (first | (with_reducible first | exact HB.out | apply zF | apply zD | apply zE | refine zJ ?_ GE108.out) | exact HB.out))⟩)
               ·skip
                refine box_step ?hg (N := 4) ?hd (cs := #[.int .i64 0, .int .i64 0, .int .i64 0, .int .i64 0, .int .i64 0, .int .i64 0, .int .i64 0, .int .i64 0, .int .i64 0]) (t := 48) ?hr ?_; (case hd => rfl); (case hg => rfl); (case hr => first | (go_simp; done) | (go_simp; rfl))
                intro gb118 hg w37 hbox hb
                have n0_ := Aside0.mk (blk_below (g := gb108) (o := .cells #[.int .i64 0, .int .i64 0, .int .i64 0, .int .i64 0, .int .i64 0, .int .i64 0, .int .i64 0, .int .i64 0, .int .i64 0] 48 (0, 0)) (by (with_reducible repeat (first | refine zH ?_ _ | refine zI ?_ | refine zG ?_ _)); exact BK108.out) hb)
                have n1_ := Aside0.mk (zU (by repeat (first | (with_reducible first | exact HB.out | apply zF | apply zD | apply zE | refine zJ ?_ GE108.out) | exact HB.out)) hb)
                have n2_ := Aside0.mk (hbox)
                have n3_ := Aside0.mk ((by rw [hg]; exact (zT (by repeat (first | (with_reducible first | exact HB.out | apply zF | apply zD | apply zE | refine zJ ?_ GE108.out) | exact HB.out))) : w.heap.size ≤ gb118))
                have n4_ := Aside0.mk ((by rw [hg]; exact (zT (by repeat (first | (with_reducible first | exact HB.out | apply zF | apply zD | apply zE | refine zJ ?_ GE108.out) | exact HB.out))) : w.heap.size ≤ gb118))
                have n5_ := Aside0.mk ((by rw [hg]; exact Nat.ne_of_lt (blk_lt (g := gb108) (o := .cells #[.int .i64 0, .int .i64 0, .int .i64 0, .int .i64 0, .int .i64 0, .int .i64 0, .int .i64 0, .int .i64 0, .int .i64 0] 48 (0, 0)) (by (with_reducible repeat (first | refine zH ?_ _ | refine zI ?_ | refine zG ?_ _)); exact BK108.out)) : gb108 ≠ gb118))
                have n6_ := Aside0.mk ((by rw [hg]; exact Nat.ne_of_gt (blk_lt (g := gb108) (o := .cells #[.int .i64 0, .int .i64 0, .int .i64 0, .int .i64 0, .int .i64 0, .int .i64 0, .int .i64 0, .int .i64 0, .int .i64 0] 48 (0, 0)) (by (with_reducible repeat (first | refine zH ?_ _ | refine zI ?_ | refine zG ?_ _)); exact BK108.out)) : gb118 ≠ gb108))
                clear BK108
                clear HB
                have BK108 := n0_
                have HB := n1_
                have BK118 := n2_
                have GW118 := n3_
                have GE118 := n4_
                have NB108_118 := n5_
                have NB118_108 := n6_
                clear n0_ n1_ n2_ n3_ n4_ n5_ n6_
                clear hb hbox hg
                refine hK.out _ _ trivial (fun hHeld => ?_)
                clear hK K
                refine norm_ (a' := ?_) ?_ ?_
                rotate_left
                ·show Act.put _ (some 4) _ = _
                 simp only [Act.put, zA, zB, zC, i64_w, i32_w]
                 rfl
                exact norm_ (by first | (simp only [putAll, Act.put, zA, zB, zC]; done) | (simp only [putAll, Act.put, zA, zB, zC]; rfl)) (hJ2_5_8_11_28 (gb118) _ ⟨(by (with_reducible repeat (first | refine zH ?_ _ | refine zI ?_ | refine zG ?_ _)); exact BK108.out), (by (with_reducible repeat (first | refine zH ?_ _ | refine zI ?_ | refine zG ?_ _)); exact BK118.out), GW118.out, GE118.out, NB108_118.out, NB118_108.out, (by repeat (first | (with_reducible first | exact HB.out | apply zF | apply zD | apply zE | refine zJ ?_ GE108.out | refine zJ ?_ GE118.out) | exact HB.out))⟩)
             ·skip
              rintro gb118 w37 ⟨h0_, h1_, h2_, h3_, h4_, h5_, h6_⟩
              have n0_ : Aside0 (w37.heap[gb108]? = some (.cells #[.int .i64 0, .int .i64 0, .int .i64 0, .int .i64 0, .int .i64 0, .int .i64 0, .int .i64 0, .int .i64 0, .int .i64 0] 48 (0, 0))) := ⟨h0_⟩
              have n1_ : Aside0 (w37.heap[gb118]? = some (.cells #[.int .i64 0, .int .i64 0, .int .i64 0, .int .i64 0, .int .i64 0, .int .i64 0, .int .i64 0, .int .i64 0, .int .i64 0] 48 (0, 0))) := ⟨h1_⟩
              have n2_ : Aside0 (w.heap.size ≤ gb118) := ⟨h2_⟩
              have n3_ : Aside0 (w.heap.size ≤ gb118) := ⟨h3_⟩
              have n4_ : Aside0 (gb108 ≠ gb118) := ⟨h4_⟩
              have n5_ : Aside0 (gb118 ≠ gb108) := ⟨h5_⟩
              have n6_ : Aside0 (Below w.heap.size w w37) := ⟨h6_⟩
              clear BK108
              clear HB
              clear h0_ h1_ h2_ h3_ h4_ h5_ h6_
              have BK108 := n0_
              have BK118 := n1_
              have GW118 := n2_
              have GE118 := n3_
              have NB108_118 := n4_
              have NB118_108 := n5_
              have HB := n6_
              clear n0_ n1_ n2_ n3_ n4_ n5_ n6_
              have hHeld := trivial
              refine norm_ (a' := ?_) ?_ ?_
              rotate_left
              ·simp only [putAll, Act.put, zA, zB, zC]
               rfl
              refine one_ (i := 14) (N := some 23) #[true, true, true, true, true, true, true, true, true, true, true, true, true, true, true, true, true, false, true, true, false, true, true, false, true, true, false, false, true, false] rfl rfl (one_of HT_.out (by kernel_rfl)) (by decide) (fun K hK => ?_)
              refine goes_ Try.func44 (by kernel_rfl) rfl #[.string (a0.extract 14 15)] (by rfl) rfl rfl (by (try simp only [zO, zP, zQ]); first | done | rfl | (simp only [zS, zR]; rfl)) ?_
              with_reducible refine (audit_get.calls k (a0.extract 14 15) t113 _ A17.out).mono ?_
              rintro e w38 ⟨rfl, hb⟩
              refine ⟨_, rfl, ?_⟩
              have n0_ := Aside0.mk (blk_below (g := gb108) (o := .cells #[.int .i64 0, .int .i64 0, .int .i64 0, .int .i64 0, .int .i64 0, .int .i64 0, .int .i64 0, .int .i64 0, .int .i64 0] 48 (0, 0)) (by (with_reducible repeat (first | refine zH ?_ _ | refine zI ?_ | refine zG ?_ _)); exact BK108.out) hb)
              have n1_ := Aside0.mk (blk_below (g := gb118) (o := .cells #[.int .i64 0, .int .i64 0, .int .i64 0, .int .i64 0, .int .i64 0, .int .i64 0, .int .i64 0, .int .i64 0, .int .i64 0] 48 (0, 0)) (by (with_reducible repeat (first | refine zH ?_ _ | refine zI ?_ | refine zG ?_ _)); exact BK118.out) hb)
              have n2_ := Aside0.mk (zU (by repeat (first | (with_reducible first | exact HB.out | apply zF | apply zD | apply zE | refine zJ ?_ GE108.out | refine zJ ?_ GE118.out) | exact HB.out)) hb)
              clear BK108
              clear BK118
              clear HB
              have BK108 := n0_
              have BK118 := n1_
              have HB := n2_
              clear n0_ n1_ n2_
              (try clear hb)
              (try clear hb2)
              (try clear hk)
              (try clear hi)
              refine hK.out _ _ trivial (fun hHeld => ?_)
              clear hK K
              refine norm_ (a' := ?_) ?_ ?_
              rotate_left
              ·show Act.put _ (some 23) _ = _
               simp only [Act.put, zA, zB, zC, i64_w, i32_w]
               rfl
              exact norm_ (by first | (simp only [putAll, Act.put, zA, zB, zC]; done) | (simp only [putAll, Act.put, zA, zB, zC]; rfl)) (hJ2_5_8_11_14_28 (gb118) _ ⟨(by (with_reducible repeat (first | refine zH ?_ _ | refine zI ?_ | refine zG ?_ _)); exact BK108.out), (by (with_reducible repeat (first | refine zH ?_ _ | refine zI ?_ | refine zG ?_ _)); exact BK118.out), GW118.out, GE118.out, NB108_118.out, NB118_108.out, (by repeat (first | (with_reducible first | exact HB.out | apply zF | apply zD | apply zE | refine zJ ?_ GE108.out | refine zJ ?_ GE118.out) | exact HB.out))⟩)
            ·skip
             rintro _ w37 ⟨h0_, h1_⟩
             have n0_ : Aside0 (w37.heap[gb108]? = some (.cells #[.int .i64 0, .int .i64 0, .int .i64 0, .int .i64 0, .int .i64 0, .int .i64 0, .int .i64 0, .int .i64 0, .int .i64 0] 48 (0, 0))) := ⟨h0_⟩
             have n1_ : Aside0 (Below w.heap.size w w37) := ⟨h1_⟩
             clear BK108
             clear HB
             clear h0_ h1_
             have BK108 := n0_
             have HB := n1_
             clear n0_ n1_
             have hHeld := trivial
             refine norm_ (a' := ?_) ?_ ?_
             rotate_left
             ·simp only [putAll, Act.put, zA, zB, zC]
              rfl
             refine two_ (i := 17) (j := 28) (Ni := some 26) (Nj := some 4) #[true, true, true, true, true, true, true, true, true, true, true, true, true, true, true, true, true, true, true, true, false, true, true, false, true, true, false, false, false, false] #[true, true, true, true, true, true, true, true, true, true, true, true, true, true, true, true, true, false, true, true, false, true, true, false, true, true, false, false, true, false] rfl rfl rfl rfl (two_of HT_.out (by kernel_rfl)) (by decide) (by decide) (fun K hK => ?_) (fun K hK => ?_)
             ·skip
              refine goes_ Try.func44 (by kernel_rfl) rfl #[.string (a0.extract 15 16)] (by rfl) rfl rfl (by (try simp only [zO, zP, zQ]); first | done | rfl | (simp only [zS, zR]; rfl)) ?_
              with_reducible refine (audit_get.calls k (a0.extract 15 16) t114 _ A20.out).mono ?_
              rintro e w38 ⟨rfl, hb⟩
              refine ⟨_, rfl, ?_⟩
              have n0_ := Aside0.mk (blk_below (g := gb108) (o := .cells #[.int .i64 0, .int .i64 0, .int .i64 0, .int .i64 0, .int .i64 0, .int .i64 0, .int .i64 0, .int .i64 0, .int .i64 0] 48 (0, 0)) (by (with_reducible repeat (first | refine zH ?_ _ | refine zI ?_ | refine zG ?_ _)); exact BK108.out) hb)
              have n1_ := Aside0.mk (zU (by repeat (first | (with_reducible first | exact HB.out | apply zF | apply zD | apply zE | refine zJ ?_ GE108.out) | exact HB.out)) hb)
              clear BK108
              clear HB
              have BK108 := n0_
              have HB := n1_
              clear n0_ n1_
              (try clear hb)
              (try clear hb2)
              (try clear hk)
              (try clear hi)
              refine hK.out _ _ trivial (fun hHeld => ?_)
              clear hK K
              refine norm_ (a' := ?_) ?_ ?_
              rotate_left
              ·show Act.put _ (some 26) _ = _
               simp only [Act.put, zA, zB, zC, i64_w, i32_w]
               rfl
              exact norm_ (by first | (simp only [putAll, Act.put, zA, zB, zC]; done) | (simp only [putAll, Act.put, zA, zB, zC]; rfl)) (hJ2_5_8_11_14_17 () _ ⟨(by (with_reducible repeat (first | refine zH ?_ _ | refine zI ?_ | refine zG ?_ _)); exact BK108.out), (by repeat (first | (with_reducible first | exact HB.out | apply zF | apply zD | apply zE | refine zJ ?_ GE108.out) | exact HB.out))⟩)
             ·skip
              refine box_step ?hg (N := 4) ?hd (cs := #[.int .i64 0, .int .i64 0, .int .i64 0, .int .i64 0, .int .i64 0, .int .i64 0, .int .i64 0, .int .i64 0, .int .i64 0]) (t := 48) ?hr ?_; (case hd => rfl); (case hg => rfl); (case hr => first | (go_simp; done) | (go_simp; rfl))
              intro gb118 hg w38 hbox hb
              have n0_ := Aside0.mk (blk_below (g := gb108) (o := .cells #[.int .i64 0, .int .i64 0, .int .i64 0, .int .i64 0, .int .i64 0, .int .i64 0, .int .i64 0, .int .i64 0, .int .i64 0] 48 (0, 0)) (by (with_reducible repeat (first | refine zH ?_ _ | refine zI ?_ | refine zG ?_ _)); exact BK108.out) hb)
              have n1_ := Aside0.mk (zU (by repeat (first | (with_reducible first | exact HB.out | apply zF | apply zD | apply zE | refine zJ ?_ GE108.out) | exact HB.out)) hb)
              have n2_ := Aside0.mk (hbox)
              have n3_ := Aside0.mk ((by rw [hg]; exact (zT (by repeat (first | (with_reducible first | exact HB.out | apply zF | apply zD | apply zE | refine zJ ?_ GE108.out) | exact HB.out))) : w.heap.size ≤ gb118))
              have n4_ := Aside0.mk ((by rw [hg]; exact (zT (by repeat (first | (with_reducible first | exact HB.out | apply zF | apply zD | apply zE | refine zJ ?_ GE108.out) | exact HB.out))) : w.heap.size ≤ gb118))
              have n5_ := Aside0.mk ((by rw [hg]; exact Nat.ne_of_lt (blk_lt (g := gb108) (o := .cells #[.int .i64 0, .int .i64 0, .int .i64 0, .int .i64 0, .int .i64 0, .int .i64 0, .int .i64 0, .int .i64 0, .int .i64 0] 48 (0, 0)) (by (with_reducible repeat (first | refine zH ?_ _ | refine zI ?_ | refine zG ?_ _)); exact BK108.out)) : gb108 ≠ gb118))
              have n6_ := Aside0.mk ((by rw [hg]; exact Nat.ne_of_gt (blk_lt (g := gb108) (o := .cells #[.int .i64 0, .int .i64 0, .int .i64 0, .int .i64 0, .int .i64 0, .int .i64 0, .int .i64 0, .int .i64 0, .int .i64 0] 48 (0, 0)) (by (with_reducible repeat (first | refine zH ?_ _ | refine zI ?_ | refine zG ?_ _)); exact BK108.out)) : gb118 ≠ gb108))
              clear BK108
              clear HB
              have BK108 := n0_
              have HB := n1_
              have BK118 := n2_
              have GW118 := n3_
              have GE118 := n4_
              have NB108_118 := n5_
              have NB118_108 := n6_
              clear n0_ n1_ n2_ n3_ n4_ n5_ n6_
              clear hb hbox hg
              refine hK.out _ _ trivial (fun hHeld => ?_)
              clear hK K
              refine norm_ (a' := ?_) ?_ ?_
              rotate_left
              ·show Act.put _ (some 4) _ = _
               simp only [Act.put, zA, zB, zC, i64_w, i32_w]
               rfl
              exact norm_ (by first | (simp only [putAll, Act.put, zA, zB, zC]; done) | (simp only [putAll, Act.put, zA, zB, zC]; rfl)) (hJ2_5_8_11_14_28 (gb118) _ ⟨(by (with_reducible repeat (first | refine zH ?_ _ | refine zI ?_ | refine zG ?_ _)); exact BK108.out), (by (with_reducible repeat (first | refine zH ?_ _ | refine zI ?_ | refine zG ?_ _)); exact BK118.out), GW118.out, GE118.out, NB108_118.out, NB118_108.out, (by repeat (first | (with_reducible first | exact HB.out | apply zF | apply zD | apply zE | refine zJ ?_ GE108.out | refine zJ ?_ GE118.out) | exact HB.out))⟩)
           ·skip
            rintro gb118 w38 ⟨h0_, h1_, h2_, h3_, h4_, h5_, h6_⟩
            have n0_ : Aside0 (w38.heap[gb108]? = some (.cells #[.int .i64 0, .int .i64 0, .int .i64 0, .int .i64 0, .int .i64 0, .int .i64 0, .int .i64 0, .int .i64 0, .int .i64 0] 48 (0, 0))) := ⟨h0_⟩
            have n1_ : Aside0 (w38.heap[gb118]? = some (.cells #[.int .i64 0, .int .i64 0, .int .i64 0, .int .i64 0, .int .i64 0, .int .i64 0, .int .i64 0, .int .i64 0, .int .i64 0] 48 (0, 0))) := ⟨h1_⟩
            have n2_ : Aside0 (w.heap.size ≤ gb118) := ⟨h2_⟩
            have n3_ : Aside0 (w.heap.size ≤ gb118) := ⟨h3_⟩
            have n4_ : Aside0 (gb108 ≠ gb118) := ⟨h4_⟩
            have n5_ : Aside0 (gb118 ≠ gb108) := ⟨h5_⟩
            have n6_ : Aside0 (Below w.heap.size w w38) := ⟨h6_⟩
            clear BK108
            clear HB
            clear h0_ h1_ h2_ h3_ h4_ h5_ h6_
            have BK108 := n0_
            have BK118 := n1_
            have GW118 := n2_
            have GE118 := n3_
            have NB108_118 := n4_
            have NB118_108 := n5_
            have HB := n6_
            clear n0_ n1_ n2_ n3_ n4_ n5_ n6_
            have hHeld := trivial
            refine norm_ (a' := ?_) ?_ ?_
            rotate_left
            ·simp only [putAll, Act.put, zA, zB, zC]
             rfl
            refine one_ (i := 17) (N := some 26) #[true, true, true, true, true, true, true, true, true, true, true, true, true, true, true, true, true, true, true, true, false, true, true, false, true, true, false, false, true, false] rfl rfl (one_of HT_.out (by kernel_rfl)) (by decide) (fun K hK => ?_)
            refine goes_ Try.func44 (by kernel_rfl) rfl #[.string (a0.extract 15 16)] (by rfl) rfl rfl (by (try simp only [zO, zP, zQ]); first | done | rfl | (simp only [zS, zR]; rfl)) ?_
            with_reducible refine (audit_get.calls k (a0.extract 15 16) t114 _ A20.out).mono ?_
            rintro e w39 ⟨rfl, hb⟩
            refine ⟨_, rfl, ?_⟩
            have n0_ := Aside0.mk (blk_below (g := gb108) (o := .cells #[.int .i64 0, .int .i64 0, .int .i64 0, .int .i64 0, .int .i64 0, .int .i64 0, .int .i64 0, .int .i64 0, .int .i64 0] 48 (0, 0)) (by (with_reducible repeat (first | refine zH ?_ _ | refine zI ?_ | refine zG ?_ _)); exact BK108.out) hb)
            have n1_ := Aside0.mk (blk_below (g := gb118) (o := .cells #[.int .i64 0, .int .i64 0, .int .i64 0, .int .i64 0, .int .i64 0, .int .i64 0, .int .i64 0, .int .i64 0, .int .i64 0] 48 (0, 0)) (by (with_reducible repeat (first | refine zH ?_ _ | refine zI ?_ | refine zG ?_ _)); exact BK118.out) hb)
            have n2_ := Aside0.mk (zU (by repeat (first | (with_reducible first | exact HB.out | apply zF | apply zD | apply zE | refine zJ ?_ GE108.out | refine zJ ?_ GE118.out) | exact HB.out)) hb)
            clear BK108
            clear BK118
            clear HB
            have BK108 := n0_
            have BK118 := n1_
            have HB := n2_
            clear n0_ n1_ n2_
            (try clear hb)
            (try clear hb2)
            (try clear hk)
            (try clear hi)
            refine hK.out _ _ trivial (fun hHeld => ?_)
            clear hK K
            refine norm_ (a' := ?_) ?_ ?_
            rotate_left
            ·show Act.put _ (some 26) _ = _
             simp only [Act.put, zA, zB, zC, i64_w, i32_w]
             rfl
            exact norm_ (by first | (simp only [putAll, Act.put, zA, zB, zC]; done) | (simp only [putAll, Act.put, zA, zB, zC]; rfl)) (hJ2_5_8_11_14_17_28 (gb118) _ ⟨(by (with_reducible repeat (first | refine zH ?_ _ | refine zI ?_ | refine zG ?_ _)); exact BK108.out), (by (with_reducible repeat (first | refine zH ?_ _ | refine zI ?_ | refine zG ?_ _)); exact BK118.out), GW118.out, GE118.out, NB108_118.out, NB118_108.out, (by repeat (first | (with_reducible first | exact HB.out | apply zF | apply zD | apply zE | refine zJ ?_ GE108.out | refine zJ ?_ GE118.out) | exact HB.out))⟩)
          ·skip
           rintro _ w38 ⟨h0_, h1_⟩
           have n0_ : Aside0 (w38.heap[gb108]? = some (.cells #[.int .i64 0, .int .i64 0, .int .i64 0, .int .i64 0, .int .i64 0, .int .i64 0, .int .i64 0, .int .i64 0, .int .i64 0] 48 (0, 0))) := ⟨h0_⟩
           have n1_ : Aside0 (Below w.heap.size w w38) := ⟨h1_⟩
           clear BK108
           clear HB
           clear h0_ h1_
           have BK108 := n0_
           have HB := n1_
           clear n0_ n1_
           have hHeld := trivial
           refine norm_ (a' := ?_) ?_ ?_
           rotate_left
           ·simp only [putAll, Act.put, zA, zB, zC]
            rfl
           refine two_ (i := 20) (j := 28) (Ni := some 29) (Nj := some 4) #[true, true, true, true, true, true, true, true, true, true, true, true, true, true, true, true, true, true, true, true, true, true, true, false, true, true, false, false, false, false] #[true, true, true, true, true, true, true, true, true, true, true, true, true, true, true, true, true, true, true, true, false, true, true, false, true, true, false, false, true, false] rfl rfl rfl rfl (two_of HT_.out (by kernel_rfl)) (by decide) (by decide) (fun K hK => ?_) (fun K hK => ?_)
           ·skip
            refine goes_ Try.func44 (by kernel_rfl) rfl #[.string (a0.extract 16 17)] (by rfl) rfl rfl (by (try simp only [zO, zP, zQ]); first | done | rfl | (simp only [zS, zR]; rfl)) ?_
            with_reducible refine (audit_get.calls k (a0.extract 16 17) t115 _ A23.out).mono ?_
            rintro e w39 ⟨rfl, hb⟩
            refine ⟨_, rfl, ?_⟩
            have n0_ := Aside0.mk (blk_below (g := gb108) (o := .cells #[.int .i64 0, .int .i64 0, .int .i64 0, .int .i64 0, .int .i64 0, .int .i64 0, .int .i64 0, .int .i64 0, .int .i64 0] 48 (0, 0)) (by (with_reducible repeat (first | refine zH ?_ _ | refine zI ?_ | refine zG ?_ _)); exact BK108.out) hb)
            have n1_ := Aside0.mk (zU (by repeat (first | (with_reducible first | exact HB.out | apply zF | apply zD | apply zE | refine zJ ?_ GE108.out) | exact HB.out)) hb)
            clear BK108
            clear HB
            have BK108 := n0_
            have HB := n1_
            clear n0_ n1_
            (try clear hb)
            (try clear hb2)
            (try clear hk)
            (try clear hi)
            refine hK.out _ _ trivial (fun hHeld => ?_)
            clear hK K
            refine norm_ (a' := ?_) ?_ ?_
            rotate_left
            ·show Act.put _ (some 29) _ = _
             simp only [Act.put, zA, zB, zC, i64_w, i32_w]
             rfl
            exact norm_ (by first | (simp only [putAll, Act.put, zA, zB, zC]; done) | (simp only [putAll, Act.put, zA, zB, zC]; rfl)) (hJ2_5_8_11_14_17_20 () _ ⟨(by (with_reducible repeat (first | refine zH ?_ _ | refine zI ?_ | refine zG ?_ _)); exact BK108.out), (by repeat (first | (with_reducible first | exact HB.out | apply zF | apply zD | apply zE | refine zJ ?_ GE108.out) | exact HB.out))⟩)
           ·skip
            refine box_step ?hg (N := 4) ?hd (cs := #[.int .i64 0, .int .i64 0, .int .i64 0, .int .i64 0, .int .i64 0, .int .i64 0, .int .i64 0, .int .i64 0, .int .i64 0]) (t := 48) ?hr ?_; (case hd => rfl); (case hg => rfl); (case hr => first | (go_simp; done) | (go_simp; rfl))
            intro gb118 hg w39 hbox hb
            have n0_ := Aside0.mk (blk_below (g := gb108) (o := .cells #[.int .i64 0, .int .i64 0, .int .i64 0, .int .i64 0, .int .i64 0, .int .i64 0, .int .i64 0, .int .i64 0, .int .i64 0] 48 (0, 0)) (by (with_reducible repeat (first | refine zH ?_ _ | refine zI ?_ | refine zG ?_ _)); exact BK108.out) hb)
            have n1_ := Aside0.mk (zU (by repeat (first | (with_reducible first | exact HB.out | apply zF | apply zD | apply zE | refine zJ ?_ GE108.out) | exact HB.out)) hb)
            have n2_ := Aside0.mk (hbox)
            have n3_ := Aside0.mk ((by rw [hg]; exact (zT (by repeat (first | (with_reducible first | exact HB.out | apply zF | apply zD | apply zE | refine zJ ?_ GE108.out) | exact HB.out))) : w.heap.size ≤ gb118))
            have n4_ := Aside0.mk ((by rw [hg]; exact (zT (by repeat (first | (with_reducible first | exact HB.out | apply zF | apply zD | apply zE | refine zJ ?_ GE108.out) | exact HB.out))) : w.heap.size ≤ gb118))
            have n5_ := Aside0.mk ((by rw [hg]; exact Nat.ne_of_lt (blk_lt (g := gb108) (o := .cells #[.int .i64 0, .int .i64 0, .int .i64 0, .int .i64 0, .int .i64 0, .int .i64 0, .int .i64 0, .int .i64 0, .int .i64 0] 48 (0, 0)) (by (with_reducible repeat (first | refine zH ?_ _ | refine zI ?_ | refine zG ?_ _)); exact BK108.out)) : gb108 ≠ gb118))
            have n6_ := Aside0.mk ((by rw [hg]; exact Nat.ne_of_gt (blk_lt (g := gb108) (o := .cells #[.int .i64 0, .int .i64 0, .int .i64 0, .int .i64 0, .int .i64 0, .int .i64 0, .int .i64 0, .int .i64 0, .int .i64 0] 48 (0, 0)) (by (with_reducible repeat (first | refine zH ?_ _ | refine zI ?_ | refine zG ?_ _)); exact BK108.out)) : gb118 ≠ gb108))
            clear BK108
            clear HB
            have BK108 := n0_
            have HB := n1_
            have BK118 := n2_
            have GW118 := n3_
            have GE118 := n4_
            have NB108_118 := n5_
            have NB118_108 := n6_
            clear n0_ n1_ n2_ n3_ n4_ n5_ n6_
            clear hb hbox hg
            refine hK.out _ _ trivial (fun hHeld => ?_)
            clear hK K
            refine norm_ (a' := ?_) ?_ ?_
            rotate_left
            ·show Act.put _ (some 4) _ = _
             simp only [Act.put, zA, zB, zC, i64_w, i32_w]
             rfl
            exact norm_ (by first | (simp only [putAll, Act.put, zA, zB, zC]; done) | (simp only [putAll, Act.put, zA, zB, zC]; rfl)) (hJ2_5_8_11_14_17_28 (gb118) _ ⟨(by (with_reducible repeat (first | refine zH ?_ _ | refine zI ?_ | refine zG ?_ _)); exact BK108.out), (by (with_reducible repeat (first | refine zH ?_ _ | refine zI ?_ | refine zG ?_ _)); exact BK118.out), GW118.out, GE118.out, NB108_118.out, NB118_108.out, (by repeat (first | (with_reducible first | exact HB.out | apply zF | apply zD | apply zE | refine zJ ?_ GE108.out | refine zJ ?_ GE118.out) | exact HB.out))⟩)
         ·skip
          rintro gb118 w39 ⟨h0_, h1_, h2_, h3_, h4_, h5_, h6_⟩
          have n0_ : Aside0 (w39.heap[gb108]? = some (.cells #[.int .i64 0, .int .i64 0, .int .i64 0, .int .i64 0, .int .i64 0, .int .i64 0, .int .i64 0, .int .i64 0, .int .i64 0] 48 (0, 0))) := ⟨h0_⟩
          have n1_ : Aside0 (w39.heap[gb118]? = some (.cells #[.int .i64 0, .int .i64 0, .int .i64 0, .int .i64 0, .int .i64 0, .int .i64 0, .int .i64 0, .int .i64 0, .int .i64 0] 48 (0, 0))) := ⟨h1_⟩
          have n2_ : Aside0 (w.heap.size ≤ gb118) := ⟨h2_⟩
          have n3_ : Aside0 (w.heap.size ≤ gb118) := ⟨h3_⟩
          have n4_ : Aside0 (gb108 ≠ gb118) := ⟨h4_⟩
          have n5_ : Aside0 (gb118 ≠ gb108) := ⟨h5_⟩
          have n6_ : Aside0 (Below w.heap.size w w39) := ⟨h6_⟩
          clear BK108
          clear HB
          clear h0_ h1_ h2_ h3_ h4_ h5_ h6_
          have BK108 := n0_
          have BK118 := n1_
          have GW118 := n2_
          have GE118 := n3_
          have NB108_118 := n4_
          have NB118_108 := n5_
          have HB := n6_
          clear n0_ n1_ n2_ n3_ n4_ n5_ n6_
          have hHeld := trivial
          refine norm_ (a' := ?_) ?_ ?_
          rotate_left
          ·simp only [putAll, Act.put, zA, zB, zC]
           rfl
          refine one_ (i := 20) (N := some 29) #[true, true, true, true, true, true, true, true, true, true, true, true, true, true, true, true, true, true, true, true, true, true, true, false, true, true, false, false, true, false] rfl rfl (one_of HT_.out (by kernel_rfl)) (by decide) (fun K hK => ?_)
          refine goes_ Try.func44 (by kernel_rfl) rfl #[.string (a0.extract 16 17)] (by rfl) rfl rfl (by (try simp only [zO, zP, zQ]); first | done | rfl | (simp only [zS, zR]; rfl)) ?_
          with_reducible refine (audit_get.calls k (a0.extract 16 17) t115 _ A23.out).mono ?_
          rintro e w40 ⟨rfl, hb⟩
          refine ⟨_, rfl, ?_⟩
          have n0_ := Aside0.mk (blk_below (g := gb108) (o := .cells #[.int .i64 0, .int .i64 0, .int .i64 0, .int .i64 0, .int .i64 0, .int .i64 0, .int .i64 0, .int .i64 0, .int .i64 0] 48 (0, 0)) (by (with_reducible repeat (first | refine zH ?_ _ | refine zI ?_ | refine zG ?_ _)); exact BK108.out) hb)
          have n1_ := Aside0.mk (blk_below (g := gb118) (o := .cells #[.int .i64 0, .int .i64 0, .int .i64 0, .int .i64 0, .int .i64 0, .int .i64 0, .int .i64 0, .int .i64 0, .int .i64 0] 48 (0, 0)) (by (with_reducible repeat (first | refine zH ?_ _ | refine zI ?_ | refine zG ?_ _)); exact BK118.out) hb)
          have n2_ := Aside0.mk (zU (by repeat (first | (with_reducible first | exact HB.out | apply zF | apply zD | apply zE | refine zJ ?_ GE108.out | refine zJ ?_ GE118.out) | exact HB.out)) hb)
          clear BK108
          clear BK118
          clear HB
          have BK108 := n0_
          have BK118 := n1_
          have HB := n2_
          clear n0_ n1_ n2_
          (try clear hb)
          (try clear hb2)
          (try clear hk)
          (try clear hi)
          refine hK.out _ _ trivial (fun hHeld => ?_)
          clear hK K
          refine norm_ (a' := ?_) ?_ ?_
          rotate_left
          ·show Act.put _ (some 29) _ = _
           simp only [Act.put, zA, zB, zC, i64_w, i32_w]
           rfl
          exact norm_ (by first | (simp only [putAll, Act.put, zA, zB, zC]; done) | (simp only [putAll, Act.put, zA, zB, zC]; rfl)) (hJ2_5_8_11_14_17_20_28 (gb118) _ ⟨(by (with_reducible repeat (first | refine zH ?_ _ | refine zI ?_ | refine zG ?_ _)); exact BK108.out), (by (with_reducible repeat (first | refine zH ?_ _ | refine zI ?_ | refine zG ?_ _)); exact BK118.out), GW118.out, GE118.out, NB108_118.out, NB118_108.out, (by repeat (first | (with_reducible first | exact HB.out | apply zF | apply zD | apply zE | refine zJ ?_ GE108.out | refine zJ ?_ GE118.out) | exact HB.out))⟩)
        ·skip
         rintro _ w39 ⟨h0_, h1_⟩
         have n0_ : Aside0 (w39.heap[gb108]? = some (.cells #[.int .i64 0, .int .i64 0, .int .i64 0, .int .i64 0, .int .i64 0, .int .i64 0, .int .i64 0, .int .i64 0, .int .i64 0] 48 (0, 0))) := ⟨h0_⟩
         have n1_ : Aside0 (Below w.heap.size w w39) := ⟨h1_⟩
         clear BK108
         clear HB
         clear h0_ h1_
         have BK108 := n0_
         have HB := n1_
         clear n0_ n1_
         have hHeld := trivial
         refine norm_ (a' := ?_) ?_ ?_
         rotate_left
         ·simp only [putAll, Act.put, zA, zB, zC]
          rfl
         refine two_ (i := 23) (j := 28) (Ni := some 32) (Nj := some 4) #[true, true, true, true, true, true, true, true, true, true, true, true, true, true, true, true, true, true, true, true, true, true, true, true, true, true, false, false, false, false] #[true, true, true, true, true, true, true, true, true, true, true, true, true, true, true, true, true, true, true, true, true, true, true, false, true, true, false, false, true, false] rfl rfl rfl rfl (two_of HT_.out (by kernel_rfl)) (by decide) (by decide) (fun K hK => ?_) (fun K hK => ?_)
         ·skip
          refine goes_ Try.func45 (by kernel_rfl) rfl #[.int .u8 (bt a0 17)] (by rfl) rfl rfl (by (try simp only [zO, zP, zQ]); first | done | rfl | (simp only [zS, zR]; rfl)) ?_
          with_reducible refine (audit_signed.calls (bt a0 17) t116 _ A26.out).mono ?_
          rintro e w' ⟨rfl, ⟨nd, rfl⟩⟩
          refine ⟨_, rfl, ?_⟩
          refine hK.out _ _ trivial (fun hHeld => ?_)
          clear hK K
          refine norm_ (a' := ?_) ?_ ?_
          rotate_left
          ·show Act.put _ (some 32) _ = _
           simp only [Act.put, zA, zB, zC, i64_w, i32_w]
           rfl
          exact norm_ (by first | (simp only [putAll, Act.put, zA, zB, zC]; done) | (simp only [putAll, Act.put, zA, zB, zC]; rfl)) (hJ2_5_8_11_14_17_20_23 () _ ⟨(by (with_reducible repeat (first | refine zH ?_ _ | refine zI ?_ | refine zG ?_ _)); exact BK108.out), (by repeat (first | (with_reducible first | exact HB.out | apply zF | apply zD | apply zE | refine zJ ?_ GE108.out) | exact HB.out))⟩)
         ·skip
          refine box_step ?hg (N := 4) ?hd (cs := #[.int .i64 0, .int .i64 0, .int .i64 0, .int .i64 0, .int .i64 0, .int .i64 0, .int .i64 0, .int .i64 0, .int .i64 0]) (t := 48) ?hr ?_; (case hd => rfl); (case hg => rfl); (case hr => first | (go_simp; done) | (go_simp; rfl))
          intro gb118 hg w40 hbox hb
          have n0_ := Aside0.mk (blk_below (g := gb108) (o := .cells #[.int .i64 0, .int .i64 0, .int .i64 0, .int .i64 0, .int .i64 0, .int .i64 0, .int .i64 0, .int .i64 0, .int .i64 0] 48 (0, 0)) (by (with_reducible repeat (first | refine zH ?_ _ | refine zI ?_ | refine zG ?_ _)); exact BK108.out) hb)
          have n1_ := Aside0.mk (zU (by repeat (first | (with_reducible first | exact HB.out | apply zF | apply zD | apply zE | refine zJ ?_ GE108.out) | exact HB.out)) hb)
          have n2_ := Aside0.mk (hbox)
          have n3_ := Aside0.mk ((by rw [hg]; exact (zT (by repeat (first | (with_reducible first | exact HB.out | apply zF | apply zD | apply zE | refine zJ ?_ GE108.out) | exact HB.out))) : w.heap.size ≤ gb118))
          have n4_ := Aside0.mk ((by rw [hg]; exact (zT (by repeat (first | (with_reducible first | exact HB.out | apply zF | apply zD | apply zE | refine zJ ?_ GE108.out) | exact HB.out))) : w.heap.size ≤ gb118))
          have n5_ := Aside0.mk ((by rw [hg]; exact Nat.ne_of_lt (blk_lt (g := gb108) (o := .cells #[.int .i64 0, .int .i64 0, .int .i64 0, .int .i64 0, .int .i64 0, .int .i64 0, .int .i64 0, .int .i64 0, .int .i64 0] 48 (0, 0)) (by (with_reducible repeat (first | refine zH ?_ _ | refine zI ?_ | refine zG ?_ _)); exact BK108.out)) : gb108 ≠ gb118))
          have n6_ := Aside0.mk ((by rw [hg]; exact Nat.ne_of_gt (blk_lt (g := gb108) (o := .cells #[.int .i64 0, .int .i64 0, .int .i64 0, .int .i64 0, .int .i64 0, .int .i64 0, .int .i64 0, .int .i64 0, .int .i64 0] 48 (0, 0)) (by (with_reducible repeat (first | refine zH ?_ _ | refine zI ?_ | refine zG ?_ _)); exact BK108.out)) : gb118 ≠ gb108))
          clear BK108
          clear HB
          have BK108 := n0_
          have HB := n1_
          have BK118 := n2_
          have GW118 := n3_
          have GE118 := n4_
          have NB108_118 := n5_
          have NB118_108 := n6_
          clear n0_ n1_ n2_ n3_ n4_ n5_ n6_
          clear hb hbox hg
          refine hK.out _ _ trivial (fun hHeld => ?_)
          clear hK K
          refine norm_ (a' := ?_) ?_ ?_
          rotate_left
          ·show Act.put _ (some 4) _ = _
           simp only [Act.put, zA, zB, zC, i64_w, i32_w]
           rfl
          exact norm_ (by first | (simp only [putAll, Act.put, zA, zB, zC]; done) | (simp only [putAll, Act.put, zA, zB, zC]; rfl)) (hJ2_5_8_11_14_17_20_28 (gb118) _ ⟨(by (with_reducible repeat (first | refine zH ?_ _ | refine zI ?_ | refine zG ?_ _)); exact BK108.out), (by (with_reducible repeat (first | refine zH ?_ _ | refine zI ?_ | refine zG ?_ _)); exact BK118.out), GW118.out, GE118.out, NB108_118.out, NB118_108.out, (by repeat (first | (with_reducible first | exact HB.out | apply zF | apply zD | apply zE | refine zJ ?_ GE108.out | refine zJ ?_ GE118.out) | exact HB.out))⟩)
       ·skip
        rintro gb118 w40 ⟨h0_, h1_, h2_, h3_, h4_, h5_, h6_⟩
        have n0_ : Aside0 (w40.heap[gb108]? = some (.cells #[.int .i64 0, .int .i64 0, .int .i64 0, .int .i64 0, .int .i64 0, .int .i64 0, .int .i64 0, .int .i64 0, .int .i64 0] 48 (0, 0))) := ⟨h0_⟩
        have n1_ : Aside0 (w40.heap[gb118]? = some (.cells #[.int .i64 0, .int .i64 0, .int .i64 0, .int .i64 0, .int .i64 0, .int .i64 0, .int .i64 0, .int .i64 0, .int .i64 0] 48 (0, 0))) := ⟨h1_⟩
        have n2_ : Aside0 (w.heap.size ≤ gb118) := ⟨h2_⟩
        have n3_ : Aside0 (w.heap.size ≤ gb118) := ⟨h3_⟩
        have n4_ : Aside0 (gb108 ≠ gb118) := ⟨h4_⟩
        have n5_ : Aside0 (gb118 ≠ gb108) := ⟨h5_⟩
        have n6_ : Aside0 (Below w.heap.size w w40) := ⟨h6_⟩
        clear BK108
        clear HB
        clear h0_ h1_ h2_ h3_ h4_ h5_ h6_
        have BK108 := n0_
        have BK118 := n1_
        have GW118 := n2_
        have GE118 := n3_
        have NB108_118 := n4_
        have NB118_108 := n5_
        have HB := n6_
        clear n0_ n1_ n2_ n3_ n4_ n5_ n6_
        have hHeld := trivial
        refine norm_ (a' := ?_) ?_ ?_
        rotate_left
        ·simp only [putAll, Act.put, zA, zB, zC]
         rfl
        refine one_ (i := 23) (N := some 32) #[true, true, true, true, true, true, true, true, true, true, true, true, true, true, true, true, true, true, true, true, true, true, true, true, true, true, false, false, true, false] rfl rfl (one_of HT_.out (by kernel_rfl)) (by decide) (fun K hK => ?_)
        refine goes_ Try.func45 (by kernel_rfl) rfl #[.int .u8 (bt a0 17)] (by rfl) rfl rfl (by (try simp only [zO, zP, zQ]); first | done | rfl | (simp only [zS, zR]; rfl)) ?_
        with_reducible refine (audit_signed.calls (bt a0 17) t116 _ A26.out).mono ?_
        rintro e w' ⟨rfl, ⟨nd, rfl⟩⟩
        refine ⟨_, rfl, ?_⟩
        refine hK.out _ _ trivial (fun hHeld => ?_)
        clear hK K
        refine norm_ (a' := ?_) ?_ ?_
        rotate_left
        ·show Act.put _ (some 32) _ = _
         simp only [Act.put, zA, zB, zC, i64_w, i32_w]
         rfl
        exact norm_ (by first | (simp only [putAll, Act.put, zA, zB, zC]; done) | (simp only [putAll, Act.put, zA, zB, zC]; rfl)) (hJ2_5_8_11_14_17_20_23_28 (gb118) _ ⟨(by (with_reducible repeat (first | refine zH ?_ _ | refine zI ?_ | refine zG ?_ _)); exact BK108.out), (by (with_reducible repeat (first | refine zH ?_ _ | refine zI ?_ | refine zG ?_ _)); exact BK118.out), GW118.out, GE118.out, NB108_118.out, NB118_108.out, (by repeat (first | (with_reducible first | exact HB.out | apply zF | apply zD | apply zE | refine zJ ?_ GE108.out | refine zJ ?_ GE118.out) | exact HB.out))⟩)
      ·skip
       rintro _ w39 ⟨h0_, h1_⟩
       have n0_ : Aside0 (w39.heap[gb108]? = some (.cells #[.int .i64 0, .int .i64 0, .int .i64 0, .int .i64 0, .int .i64 0, .int .i64 0, .int .i64 0, .int .i64 0, .int .i64 0] 48 (0, 0))) := ⟨h0_⟩
       have n1_ : Aside0 (Below w.heap.size w w39) := ⟨h1_⟩
       clear BK108
       clear HB
       clear h0_ h1_
       have BK108 := n0_
       have HB := n1_
       clear n0_ n1_
       have hHeld := trivial
       refine norm_ (a' := ?_) ?_ ?_
       rotate_left
       ·simp only [putAll, Act.put, zA, zB, zC]
        rfl
       refine two_ (i := 26) (j := 28) (Ni := some 35) (Nj := some 4) #[true, true, true, true, true, true, true, true, true, true, true, true, true, true, true, true, true, true, true, true, true, true, true, true, true, true, true, false, false, false] #[true, true, true, true, true, true, true, true, true, true, true, true, true, true, true, true, true, true, true, true, true, true, true, true, true, true, false, false, true, false] rfl rfl rfl rfl (two_of HT_.out (by kernel_rfl)) (by decide) (by decide) (fun K hK => ?_) (fun K hK => ?_)
       ·skip
        refine goes_ Try.func44 (by kernel_rfl) rfl #[.string (a0.extract 18 a0.size)] (by rfl) rfl rfl (by (try simp only [zO, zP, zQ]); first | done | rfl | (simp only [zS, zR]; rfl)) ?_
        with_reducible refine (audit_get.calls k (a0.extract 18 a0.size) t117 _ A28.out).mono ?_
        rintro e w40 ⟨rfl, hb⟩
        refine ⟨_, rfl, ?_⟩
        have n0_ := Aside0.mk (blk_below (g := gb108) (o := .cells #[.int .i64 0, .int .i64 0, .int .i64 0, .int .i64 0, .int .i64 0, .int .i64 0, .int .i64 0, .int .i64 0, .int .i64 0] 48 (0, 0)) (by (with_reducible repeat (first | refine zH ?_ _ | refine zI ?_ | refine zG ?_ _)); exact BK108.out) hb)
        have n1_ := Aside0.mk (zU (by repeat (first | (with_reducible first | exact HB.out | apply zF | apply zD | apply zE | refine zJ ?_ GE108.out) | exact HB.out)) hb)
        clear BK108
        clear HB
        have BK108 := n0_
        have HB := n1_
        clear n0_ n1_
        (try clear hb)
        (try clear hb2)
        (try clear hk)
        (try clear hi)
        refine hK.out _ _ trivial (fun hHeld => ?_)
        clear hK K
        refine norm_ (a' := ?_) ?_ ?_
        rotate_left
        ·show Act.put _ (some 35) _ = _
         simp only [Act.put, zA, zB, zC, i64_w, i32_w]
         rfl
        refine pure_ (i := 27) (N := some 36) (v := ?_) (a' := ?_) #[true, true, true, true, true, true, true, true, true, true, true, true, true, true, true, true, true, true, true, true, true, true, true, true, true, true, true, true, false, false] rfl rfl (any_of HT_.out (by kernel_rfl)) (fun _ _ _ h => h) (Or.inl ⟨by rfl, ?_⟩) ?_ ?_
        rotate_left
        ·intro w'
         go_simp
         with_reducible rfl
        rotate_left
        ·simp only [Act.put, zA, zB, zC, i64_w, i32_w]
         rfl
        exact norm_ (by first | (simp only [putAll, Act.put, zA, zB, zC]; done) | (simp only [putAll, Act.put, zA, zB, zC]; rfl)) (hJ2_5_8_11_14_17_20_23_26 () _ ⟨(by (with_reducible repeat (first | refine zH ?_ _ | refine zI ?_ | refine zG ?_ _)); exact BK108.out), (by repeat (first | (with_reducible first | exact HB.out | apply zF | apply zD | apply zE | refine zJ ?_ GE108.out) | exact HB.out))⟩)
       ·skip
        refine box_step ?hg (N := 4) ?hd (cs := #[.int .i64 0, .int .i64 0, .int .i64 0, .int .i64 0, .int .i64 0, .int .i64 0, .int .i64 0, .int .i64 0, .int .i64 0]) (t := 48) ?hr ?_; (case hd => rfl); (case hg => rfl); (case hr => first | (go_simp; done) | (go_simp; rfl))
        intro gb118 hg w40 hbox hb
        have n0_ := Aside0.mk (blk_below (g := gb108) (o := .cells #[.int .i64 0, .int .i64 0, .int .i64 0, .int .i64 0, .int .i64 0, .int .i64 0, .int .i64 0, .int .i64 0, .int .i64 0] 48 (0, 0)) (by (with_reducible repeat (first | refine zH ?_ _ | refine zI ?_ | refine zG ?_ _)); exact BK108.out) hb)
        have n1_ := Aside0.mk (zU (by repeat (first | (with_reducible first | exact HB.out | apply zF | apply zD | apply zE | refine zJ ?_ GE108.out) | exact HB.out)) hb)
        have n2_ := Aside0.mk (hbox)
        have n3_ := Aside0.mk ((by rw [hg]; exact (zT (by repeat (first | (with_reducible first | exact HB.out | apply zF | apply zD | apply zE | refine zJ ?_ GE108.out) | exact HB.out))) : w.heap.size ≤ gb118))
        have n4_ := Aside0.mk ((by rw [hg]; exact (zT (by repeat (first | (with_reducible first | exact HB.out | apply zF | apply zD | apply zE | refine zJ ?_ GE108.out) | exact HB.out))) : w.heap.size ≤ gb118))
        have n5_ := Aside0.mk ((by rw [hg]; exact Nat.ne_of_lt (blk_lt (g := gb108) (o := .cells #[.int .i64 0, .int .i64 0, .int .i64 0, .int .i64 0, .int .i64 0, .int .i64 0, .int .i64 0, .int .i64 0, .int .i64 0] 48 (0, 0)) (by (with_reducible repeat (first | refine zH ?_ _ | refine zI ?_ | refine zG ?_ _)); exact BK108.out)) : gb108 ≠ gb118))
        have n6_ := Aside0.mk ((by rw [hg]; exact Nat.ne_of_gt (blk_lt (g := gb108) (o := .cells #[.int .i64 0, .int .i64 0, .int .i64 0, .int .i64 0, .int .i64 0, .int .i64 0, .int .i64 0, .int .i64 0, .int .i64 0] 48 (0, 0)) (by (with_reducible repeat (first | refine zH ?_ _ | refine zI ?_ | refine zG ?_ _)); exact BK108.out)) : gb118 ≠ gb108))
        clear BK108
        clear HB
        have BK108 := n0_
        have HB := n1_
        have BK118 := n2_
        have GW118 := n3_
        have GE118 := n4_
        have NB108_118 := n5_
        have NB118_108 := n6_
        clear n0_ n1_ n2_ n3_ n4_ n5_ n6_
        clear hb hbox hg
        refine hK.out _ _ trivial (fun hHeld => ?_)
        clear hK K
        refine norm_ (a' := ?_) ?_ ?_
        rotate_left
        ·show Act.put _ (some 4) _ = _
         simp only [Act.put, zA, zB, zC, i64_w, i32_w]
         rfl
        exact norm_ (by first | (simp only [putAll, Act.put, zA, zB, zC]; done) | (simp only [putAll, Act.put, zA, zB, zC]; rfl)) (hJ2_5_8_11_14_17_20_23_28 (gb118) _ ⟨(by (with_reducible repeat (first | refine zH ?_ _ | refine zI ?_ | refine zG ?_ _)); exact BK108.out), (by (with_reducible repeat (first | refine zH ?_ _ | refine zI ?_ | refine zG ?_ _)); exact BK118.out), GW118.out, GE118.out, NB108_118.out, NB118_108.out, (by repeat (first | (with_reducible first | exact HB.out | apply zF | apply zD | apply zE | refine zJ ?_ GE108.out | refine zJ ?_ GE118.out) | exact HB.out))⟩)
     ·skip
      rintro gb118 w40 ⟨h0_, h1_, h2_, h3_, h4_, h5_, h6_⟩
      have n0_ : Aside0 (w40.heap[gb108]? = some (.cells #[.int .i64 0, .int .i64 0, .int .i64 0, .int .i64 0, .int .i64 0, .int .i64 0, .int .i64 0, .int .i64 0, .int .i64 0] 48 (0, 0))) := ⟨h0_⟩
      have n1_ : Aside0 (w40.heap[gb118]? = some (.cells #[.int .i64 0, .int .i64 0, .int .i64 0, .int .i64 0, .int .i64 0, .int .i64 0, .int .i64 0, .int .i64 0, .int .i64 0] 48 (0, 0))) := ⟨h1_⟩
      have n2_ : Aside0 (w.heap.size ≤ gb118) := ⟨h2_⟩
      have n3_ : Aside0 (w.heap.size ≤ gb118) := ⟨h3_⟩
      have n4_ : Aside0 (gb108 ≠ gb118) := ⟨h4_⟩
      have n5_ : Aside0 (gb118 ≠ gb108) := ⟨h5_⟩
      have n6_ : Aside0 (Below w.heap.size w w40) := ⟨h6_⟩
      clear BK108
      clear HB
      clear h0_ h1_ h2_ h3_ h4_ h5_ h6_
      have BK108 := n0_
      have BK118 := n1_
      have GW118 := n2_
      have GE118 := n3_
      have NB108_118 := n4_
      have NB118_108 := n5_
      have HB := n6_
      clear n0_ n1_ n2_ n3_ n4_ n5_ n6_
      have hHeld := trivial
      refine norm_ (a' := ?_) ?_ ?_
      rotate_left
      ·simp only [putAll, Act.put, zA, zB, zC]
       rfl
      refine one_ (i := 26) (N := some 35) #[true, true, true, true, true, true, true, true, true, true, true, true, true, true, true, true, true, true, true, true, true, true, true, true, true, true, true, false, true, false] rfl rfl (one_of HT_.out (by kernel_rfl)) (by decide) (fun K hK => ?_)
      refine goes_ Try.func44 (by kernel_rfl) rfl #[.string (a0.extract 18 a0.size)] (by rfl) rfl rfl (by (try simp only [zO, zP, zQ]); first | done | rfl | (simp only [zS, zR]; rfl)) ?_
      with_reducible refine (audit_get.calls k (a0.extract 18 a0.size) t117 _ A28.out).mono ?_
      rintro e w41 ⟨rfl, hb⟩
      refine ⟨_, rfl, ?_⟩
      have n0_ := Aside0.mk (blk_below (g := gb108) (o := .cells #[.int .i64 0, .int .i64 0, .int .i64 0, .int .i64 0, .int .i64 0, .int .i64 0, .int .i64 0, .int .i64 0, .int .i64 0] 48 (0, 0)) (by (with_reducible repeat (first | refine zH ?_ _ | refine zI ?_ | refine zG ?_ _)); exact BK108.out) hb)
      have n1_ := Aside0.mk (blk_below (g := gb118) (o := .cells #[.int .i64 0, .int .i64 0, .int .i64 0, .int .i64 0, .int .i64 0, .int .i64 0, .int .i64 0, .int .i64 0, .int .i64 0] 48 (0, 0)) (by (with_reducible repeat (first | refine zH ?_ _ | refine zI ?_ | refine zG ?_ _)); exact BK118.out) hb)
      have n2_ := Aside0.mk (zU (by repeat (first | (with_reducible first | exact HB.out | apply zF | apply zD | apply zE | refine zJ ?_ GE108.out | refine zJ ?_ GE118.out) | exact HB.out)) hb)
      clear BK108
      clear BK118
      clear HB
      have BK108 := n0_
      have BK118 := n1_
      have HB := n2_
      clear n0_ n1_ n2_
      (try clear hb)
      (try clear hb2)
      (try clear hk)
      (try clear hi)
      refine hK.out _ _ trivial (fun hHeld => ?_)
      clear hK K
      refine norm_ (a' := ?_) ?_ ?_
      rotate_left
      ·show Act.put _ (some 35) _ = _
       simp only [Act.put, zA, zB, zC, i64_w, i32_w]
       rfl
      refine pure_ (i := 27) (N := some 36) (v := ?_) (a' := ?_) #[true, true, true, true, true, true, true, true, true, true, true, true, true, true, true, true, true, true, true, true, true, true, true, true, true, true, true, true, true, false] rfl rfl (any_of HT_.out (by kernel_rfl)) (fun _ _ _ h => h) (Or.inl ⟨by rfl, ?_⟩) ?_ ?_
      rotate_left
      ·intro w'
       go_simp
       with_reducible rfl
      rotate_left
      ·simp only [Act.put, zA, zB, zC, i64_w, i32_w]
       rfl
      exact norm_ (by first | (simp only [putAll, Act.put, zA, zB, zC]; done) | (simp only [putAll, Act.put, zA, zB, zC]; rfl)) (hJ2_5_8_11_14_17_20_23_26_28 (gb118) _ ⟨(by (with_reducible repeat (first | refine zH ?_ _ | refine zI ?_ | refine zG ?_ _)); exact BK108.out), (by (with_reducible repeat (first | refine zH ?_ _ | refine zI ?_ | refine zG ?_ _)); exact BK118.out), GW118.out, GE118.out, NB108_118.out, NB118_108.out, (by repeat (first | (with_reducible first | exact HB.out | apply zF | apply zD | apply zE | refine zJ ?_ GE108.out | refine zJ ?_ GE118.out) | exact HB.out))⟩)
    ·skip
     rintro _ w40 ⟨h0_, h1_⟩
     have n0_ : Aside0 (w40.heap[gb108]? = some (.cells #[.int .i64 0, .int .i64 0, .int .i64 0, .int .i64 0, .int .i64 0, .int .i64 0, .int .i64 0, .int .i64 0, .int .i64 0] 48 (0, 0))) := ⟨h0_⟩
     have n1_ : Aside0 (Below w.heap.size w w40) := ⟨h1_⟩
     clear BK108
     clear HB
     clear h0_ h1_
     have BK108 := n0_
     have HB := n1_
     clear n0_ n1_
     have hHeld := trivial
     refine norm_ (a' := ?_) ?_ ?_
     rotate_left
     ·simp only [putAll, Act.put, zA, zB, zC]
      rfl
     refine one_ (i := 28) (N := some 4) #[true, true, true, true, true, true, true, true, true, true, true, true, true, true, true, true, true, true, true, true, true, true, true, true, true, true, true, true, true, false] rfl rfl (one_of HT_.out (by kernel_rfl)) (by decide) (fun K hK => ?_)
     refine box_step ?hg (N := 4) ?hd (cs := #[.int .i64 0, .int .i64 0, .int .i64 0, .int .i64 0, .int .i64 0, .int .i64 0, .int .i64 0, .int .i64 0, .int .i64 0]) (t := 48) ?hr ?_; (case hd => rfl); (case hg => rfl); (case hr => first | (go_simp; done) | (go_simp; rfl))
     intro gb118 hg w41 hbox hb
     have n0_ := Aside0.mk (blk_below (g := gb108) (o := .cells #[.int .i64 0, .int .i64 0, .int .i64 0, .int .i64 0, .int .i64 0, .int .i64 0, .int .i64 0, .int .i64 0, .int .i64 0] 48 (0, 0)) (by (with_reducible repeat (first | refine zH ?_ _ | refine zI ?_ | refine zG ?_ _)); exact BK108.out) hb)
     have n1_ := Aside0.mk (zU (by repeat (first | (with_reducible first | exact HB.out | apply zF | apply zD | apply zE | refine zJ ?_ GE108.out) | exact HB.out)) hb)
     have n2_ := Aside0.mk (hbox)
     have n3_ := Aside0.mk ((by rw [hg]; exact (zT (by repeat (first | (with_reducible first | exact HB.out | apply zF | apply zD | apply zE | refine zJ ?_ GE108.out) | exact HB.out))) : w.heap.size ≤ gb118))
     have n4_ := Aside0.mk ((by rw [hg]; exact (zT (by repeat (first | (with_reducible first | exact HB.out | apply zF | apply zD | apply zE | refine zJ ?_ GE108.out) | exact HB.out))) : w.heap.size ≤ gb118))
     have n5_ := Aside0.mk ((by rw [hg]; exact Nat.ne_of_lt (blk_lt (g := gb108) (o := .cells #[.int .i64 0, .int .i64 0, .int .i64 0, .int .i64 0, .int .i64 0, .int .i64 0, .int .i64 0, .int .i64 0, .int .i64 0] 48 (0, 0)) (by (with_reducible repeat (first | refine zH ?_ _ | refine zI ?_ | refine zG ?_ _)); exact BK108.out)) : gb108 ≠ gb118))
     have n6_ := Aside0.mk ((by rw [hg]; exact Nat.ne_of_gt (blk_lt (g := gb108) (o := .cells #[.int .i64 0, .int .i64 0, .int .i64 0, .int .i64 0, .int .i64 0, .int .i64 0, .int .i64 0, .int .i64 0, .int .i64 0] 48 (0, 0)) (by (with_reducible repeat (first | refine zH ?_ _ | refine zI ?_ | refine zG ?_ _)); exact BK108.out)) : gb118 ≠ gb108))
     clear BK108
     clear HB
     have BK108 := n0_
     have HB := n1_
     have BK118 := n2_
     have GW118 := n3_
     have GE118 := n4_
     have NB108_118 := n5_
     have NB118_108 := n6_
     clear n0_ n1_ n2_ n3_ n4_ n5_ n6_
     clear hb hbox hg
     refine hK.out _ _ trivial (fun hHeld => ?_)
     clear hK K
     refine norm_ (a' := ?_) ?_ ?_
     rotate_left
     ·show Act.put _ (some 4) _ = _
      simp only [Act.put, zA, zB, zC, i64_w, i32_w]
      rfl
     exact norm_ (by first | (simp only [putAll, Act.put, zA, zB, zC]; done) | (simp only [putAll, Act.put, zA, zB, zC]; rfl)) (hJ2_5_8_11_14_17_20_23_26_28 (gb118) _ ⟨(by (with_reducible repeat (first | refine zH ?_ _ | refine zI ?_ | refine zG ?_ _)); exact BK108.out), (by (with_reducible repeat (first | refine zH ?_ _ | refine zI ?_ | refine zG ?_ _)); exact BK118.out), GW118.out, GE118.out, NB108_118.out, NB118_108.out, (by repeat (first | (with_reducible first | exact HB.out | apply zF | apply zD | apply zE | refine zJ ?_ GE108.out | refine zJ ?_ GE118.out) | exact HB.out))⟩)
   rintro gb118 w41 ⟨h0_, h1_, h2_, h3_, h4_, h5_, h6_⟩
   have n0_ : Aside0 (w41.heap[gb108]? = some (.cells #[.int .i64 0, .int .i64 0, .int .i64 0, .int .i64 0, .int .i64 0, .int .i64 0, .int .i64 0, .int .i64 0, .int .i64 0] 48 (0, 0))) := ⟨h0_⟩
   have n1_ : Aside0 (w41.heap[gb118]? = some (.cells #[.int .i64 0, .int .i64 0, .int .i64 0, .int .i64 0, .int .i64 0, .int .i64 0, .int .i64 0, .int .i64 0, .int .i64 0] 48 (0, 0))) := ⟨h1_⟩
   have n2_ : Aside0 (w.heap.size ≤ gb118) := ⟨h2_⟩
   have n3_ : Aside0 (w.heap.size ≤ gb118) := ⟨h3_⟩
   have n4_ : Aside0 (gb108 ≠ gb118) := ⟨h4_⟩
   have n5_ : Aside0 (gb118 ≠ gb108) := ⟨h5_⟩
   have n6_ : Aside0 (Below w.heap.size w w41) := ⟨h6_⟩
   clear BK108
   clear HB
   clear h0_ h1_ h2_ h3_ h4_ h5_ h6_
   have BK108 := n0_
   have BK118 := n1_
   have GW118 := n2_
   have GE118 := n3_
   have NB108_118 := n4_
   have NB118_108 := n5_
   have HB := n6_
   clear n0_ n1_ n2_ n3_ n4_ n5_ n6_
   have hHeld := trivial
   refine norm_ (a' := ?_) ?_ ?_
   rotate_left
   ·simp only [putAll, Act.put, zA, zB, zC]
    rfl
   refine one_ (i := 29) (N := none) #[true, true, true, true, true, true, true, true, true, true, true, true, true, true, true, true, true, true, true, true, true, true, true, true, true, true, true, true, true, true] rfl rfl (one_of HT_.out (by kernel_rfl)) (by decide) (fun K hK => ?_)
   have hs42 : w41.cell? ⟨gb118, 0, none⟩ = some (.int .i64 0) := (zK BK118.out 0).trans rfl
   have hfs42 := zL BK118.out 0
   have hns42_0 := NB108_118.out
   have hms42_0 := NB118_108.out
   have hs43 : w41.cell? ⟨gb118, 1, none⟩ = some (.int .i64 0) := (zK BK118.out 1).trans rfl
   have hfs43 := zL BK118.out 1
   have hns43_0 := NB108_118.out
   have hms43_0 := NB118_108.out
   have hs44 : w41.cell? ⟨gb118, 2, none⟩ = some (.int .i64 0) := (zK BK118.out 2).trans rfl
   have hfs44 := zL BK118.out 2
   have hns44_0 := NB108_118.out
   have hms44_0 := NB118_108.out
   have hs45 : w41.cell? ⟨gb118, 3, none⟩ = some (.int .i64 0) := (zK BK118.out 3).trans rfl
   have hfs45 := zL BK118.out 3
   have hns45_0 := NB108_118.out
   have hms45_0 := NB118_108.out
   have hs46 : w41.cell? ⟨gb118, 4, none⟩ = some (.int .i64 0) := (zK BK118.out 4).trans rfl
   have hfs46 := zL BK118.out 4
   have hns46_0 := NB108_118.out
   have hms46_0 := NB118_108.out
   have hs47 : w41.cell? ⟨gb118, 5, none⟩ = some (.int .i64 0) := (zK BK118.out 5).trans rfl
   have hfs47 := zL BK118.out 5
   have hns47_0 := NB108_118.out
   have hms47_0 := NB118_108.out
   have hs48 : w41.cell? ⟨gb118, 6, none⟩ = some (.int .i64 0) := (zK BK118.out 6).trans rfl
   have hfs48 := zL BK118.out 6
   have hns48_0 := NB108_118.out
   have hms48_0 := NB118_108.out
   have hs49 : w41.cell? ⟨gb118, 7, none⟩ = some (.int .i64 0) := (zK BK118.out 7).trans rfl
   have hfs49 := zL BK118.out 7
   have hns49_0 := NB108_118.out
   have hms49_0 := NB118_108.out
   have hs50 : w41.cell? ⟨gb118, 8, none⟩ = some (.int .i64 0) := (zK BK118.out 8).trans rfl
   have hfs50 := zL BK118.out 8
   have hns50_0 := NB108_118.out
   have hms50_0 := NB118_108.out
   refine skip_ (w1 := ?_) (by rfl) rfl ?_ ?_
   rotate_left
   ·go_simp
    rfl
   refine hK.out _ _ trivial (fun hHeld => ?_)
   clear hK K
   refine done_ (done_of HT_.out (by kernel_rfl)) ?_
   have hnb51 := NB118_108.out
   have hnc51 := NB108_118.out
   have hcz52_0 : w41.cell? ⟨gb118, 0, none⟩ = some (.int .i64 0) := (zK BK118.out 0).trans rfl
   have hcz52_1 : w41.cell? ⟨gb118, 1, none⟩ = some (.int .i64 0) := (zK BK118.out 1).trans rfl
   have hcz52_2 : w41.cell? ⟨gb118, 2, none⟩ = some (.int .i64 0) := (zK BK118.out 2).trans rfl
   have hcz52_3 : w41.cell? ⟨gb118, 3, none⟩ = some (.int .i64 0) := (zK BK118.out 3).trans rfl
   have hcz52_4 : w41.cell? ⟨gb118, 4, none⟩ = some (.int .i64 0) := (zK BK118.out 4).trans rfl
   have hcz52_5 : w41.cell? ⟨gb118, 5, none⟩ = some (.int .i64 0) := (zK BK118.out 5).trans rfl
   have hcz52_6 : w41.cell? ⟨gb118, 6, none⟩ = some (.int .i64 0) := (zK BK118.out 6).trans rfl
   have hcz52_7 : w41.cell? ⟨gb118, 7, none⟩ = some (.int .i64 0) := (zK BK118.out 7).trans rfl
   have hcz52_8 : w41.cell? ⟨gb118, 8, none⟩ = some (.int .i64 0) := (zK BK118.out 8).trans rfl
   have hfz52_0 := zL BK118.out 0
   have hfz52_1 := zL BK118.out 1
   have hfz52_2 := zL BK118.out 2
   have hfz52_3 := zL BK118.out 3
   have hfz52_4 := zL BK118.out 4
   have hfz52_5 := zL BK118.out 5
   have hfz52_6 := zL BK118.out 6
   have hfz52_7 := zL BK118.out 7
   have hfz52_8 := zL BK118.out 8
   try go_wp2_with (first | ((with_reducible refine gate_callee (f := 46) rfl ?_); refine goesL_ (some 38) rfl rfl Try.func46 (by kernel_rfl) rfl #[.agg #[.int .i64 t109, .int .i64 t110, .int .i64 t111, .int .i64 t112, .int .i64 t113, .int .i64 t114, .int .i64 t115, .int .i64 t116, .int .i64 t117]] rfl (by (try simp only [zO, zP, zQ]); first | done | rfl | (simp only [zS, zR]; rfl)) ?_; (with_reducible refine (audit_Right.calls k t109 t110 t111 t112 t113 t114 t115 t116 t117 true _ A29.out).mono ?_); rintro e w53 ⟨rfl, hb⟩; refine ⟨_, rfl, ?_⟩; have n0_ := Aside0.mk (blk_below (g := gb108) (o := .cells #[.int .i64 0, .int .i64 0, .int .i64 0, .int .i64 0, .int .i64 0, .int .i64 0, .int .i64 0, .int .i64 0, .int .i64 0] 48 (0, 0)) (by (with_reducible repeat (first | refine zH ?_ _ | refine zI ?_ | refine zG ?_ _)); refine blk_far ?_ NB108_118.out _; (with_reducible repeat (first | refine zH ?_ _ | refine zI ?_ | refine zG ?_ _)); refine blk_far ?_ NB108_118.out _; (with_reducible repeat (first | refine zH ?_ _ | refine zI ?_ | refine zG ?_ _)); refine blk_far ?_ NB108_118.out _; (with_reducible repeat (first | refine zH ?_ _ | refine zI ?_ | refine zG ?_ _)); refine blk_far ?_ NB108_118.out _; (with_reducible repeat (first | refine zH ?_ _ | refine zI ?_ | refine zG ?_ _)); refine blk_far ?_ NB108_118.out _; (with_reducible repeat (first | refine zH ?_ _ | refine zI ?_ | refine zG ?_ _)); refine blk_far ?_ NB108_118.out _; (with_reducible repeat (first | refine zH ?_ _ | refine zI ?_ | refine zG ?_ _)); refine blk_far ?_ NB108_118.out _; (with_reducible repeat (first | refine zH ?_ _ | refine zI ?_ | refine zG ?_ _)); refine blk_far ?_ NB108_118.out _; (with_reducible repeat (first | refine zH ?_ _ | refine zI ?_ | refine zG ?_ _)); refine blk_far ?_ NB108_118.out _; (with_reducible repeat (first | refine zH ?_ _ | refine zI ?_ | refine zG ?_ _)); exact BK108.out) hb); have n1_ := Aside0.mk (blk_below (g := gb118) (o := .cells #[.int .i64 t109, .int .i64 t110, .int .i64 t111, .int .i64 t112, .int .i64 t113, .int .i64 t114, .int .i64 t115, .int .i64 t116, .int .i64 t117] 48 (0, 0)) (by (with_reducible repeat (first | refine zH ?_ _ | refine zI ?_ | refine zG ?_ _)); refine blk_put (cs := #[.int .i64 t109, .int .i64 t110, .int .i64 t111, .int .i64 t112, .int .i64 t113, .int .i64 t114, .int .i64 t115, .int .i64 t116, .int .i64 0]) ?_ 8 _ rfl; (with_reducible repeat (first | refine zH ?_ _ | refine zI ?_ | refine zG ?_ _)); refine blk_put (cs := #[.int .i64 t109, .int .i64 t110, .int .i64 t111, .int .i64 t112, .int .i64 t113, .int .i64 t114, .int .i64 t115, .int .i64 0, .int .i64 0]) ?_ 7 _ rfl; (with_reducible repeat (first | refine zH ?_ _ | refine zI ?_ | refine zG ?_ _)); refine blk_put (cs := #[.int .i64 t109, .int .i64 t110, .int .i64 t111, .int .i64 t112, .int .i64 t113, .int .i64 t114, .int .i64 0, .int .i64 0, .int .i64 0]) ?_ 6 _ rfl; (with_reducible repeat (first | refine zH ?_ _ | refine zI ?_ | refine zG ?_ _)); refine blk_put (cs := #[.int .i64 t109, .int .i64 t110, .int .i64 t111, .int .i64 t112, .int .i64 t113, .int .i64 0, .int .i64 0, .int .i64 0, .int .i64 0]) ?_ 5 _ rfl; (with_reducible repeat (first | refine zH ?_ _ | refine zI ?_ | refine zG ?_ _)); refine blk_put (cs := #[.int .i64 t109, .int .i64 t110, .int .i64 t111, .int .i64 t112, .int .i64 0, .int .i64 0, .int .i64 0, .int .i64 0, .int .i64 0]) ?_ 4 _ rfl; (with_reducible repeat (first | refine zH ?_ _ | refine zI ?_ | refine zG ?_ _)); refine blk_put (cs := #[.int .i64 t109, .int .i64 t110, .int .i64 t111, .int .i64 0, .int .i64 0, .int .i64 0, .int .i64 0, .int .i64 0, .int .i64 0]) ?_ 3 _ rfl; (with_reducible repeat (first | refine zH ?_ _ | refine zI ?_ | refine zG ?_ _)); refine blk_put (cs := #[.int .i64 t109, .int .i64 t110, .int .i64 0, .int .i64 0, .int .i64 0, .int .i64 0, .int .i64 0, .int .i64 0, .int .i64 0]) ?_ 2 _ rfl; (with_reducible repeat (first | refine zH ?_ _ | refine zI ?_ | refine zG ?_ _)); refine blk_put (cs := #[.int .i64 t109, .int .i64 0, .int .i64 0, .int .i64 0, .int .i64 0, .int .i64 0, .int .i64 0, .int .i64 0, .int .i64 0]) ?_ 1 _ rfl; (with_reducible repeat (first | refine zH ?_ _ | refine zI ?_ | refine zG ?_ _)); refine blk_put (cs := #[.int .i64 0, .int .i64 0, .int .i64 0, .int .i64 0, .int .i64 0, .int .i64 0, .int .i64 0, .int .i64 0, .int .i64 0]) ?_ 0 _ rfl; (with_reducible repeat (first | refine zH ?_ _ | refine zI ?_ | refine zG ?_ _)); exact BK118.out) hb); have n2_ := Aside0.mk (zU (by repeat (first | (with_reducible first | exact HB.out | apply zF | apply zD | apply zE | refine zJ ?_ GE108.out | refine zJ ?_ GE118.out) | exact HB.out)) hb); clear BK108; clear BK118; clear HB; have BK108 := n0_; have BK118 := n1_; have HB := n2_; clear n0_ n1_ n2_; (try clear hb); (try clear hb2); (try clear hk); (try clear hi); have hcz54_0 : w53.cell? ⟨gb118, 0, none⟩ = some (.int .i64 t109) := (zK BK118.out 0).trans rfl; have hcz54_1 : w53.cell? ⟨gb118, 1, none⟩ = some (.int .i64 t110) := (zK BK118.out 1).trans rfl; have hcz54_2 : w53.cell? ⟨gb118, 2, none⟩ = some (.int .i64 t111) := (zK BK118.out 2).trans rfl; have hcz54_3 : w53.cell? ⟨gb118, 3, none⟩ = some (.int .i64 t112) := (zK BK118.out 3).trans rfl; have hcz54_4 : w53.cell? ⟨gb118, 4, none⟩ = some (.int .i64 t113) := (zK BK118.out 4).trans rfl; have hcz54_5 : w53.cell? ⟨gb118, 5, none⟩ = some (.int .i64 t114) := (zK BK118.out 5).trans rfl; have hcz54_6 : w53.cell? ⟨gb118, 6, none⟩ = some (.int .i64 t115) := (zK BK118.out 6).trans rfl; have hcz54_7 : w53.cell? ⟨gb118, 7, none⟩ = some (.int .i64 t116) := (zK BK118.out 7).trans rfl; have hcz54_8 : w53.cell? ⟨gb118, 8, none⟩ = some (.int .i64 t117) := (zK BK118.out 8).trans rfl; have hfz54_0 := zL BK118.out 0; have hfz54_1 := zL BK118.out 1; have hfz54_2 := zL BK118.out 2; have hfz54_3 := zL BK118.out 3; have hfz54_4 := zL BK118.out 4; have hfz54_5 := zL BK118.out 5; have hfz54_6 := zL BK118.out 6; have hfz54_7 := zL BK118.out 7; have hfz54_8 := zL BK118.out 8; have hcz55_0 : w53.cell? ⟨gb108, 0, none⟩ = some (.int .i64 0) := (zK BK108.out 0).trans rfl; have hcz55_1 : w53.cell? ⟨gb108, 1, none⟩ = some (.int .i64 0) := (zK BK108.out 1).trans rfl; have hcz55_2 : w53.cell? ⟨gb108, 2, none⟩ = some (.int .i64 0) := (zK BK108.out 2).trans rfl; have hcz55_3 : w53.cell? ⟨gb108, 3, none⟩ = some (.int .i64 0) := (zK BK108.out 3).trans rfl; have hcz55_4 : w53.cell? ⟨gb108, 4, none⟩ = some (.int .i64 0) := (zK BK108.out 4).trans rfl; have hcz55_5 : w53.cell? ⟨gb108, 5, none⟩ = some (.int .i64 0) := (zK BK108.out 5).trans rfl; have hcz55_6 : w53.cell? ⟨gb108, 6, none⟩ = some (.int .i64 0) := (zK BK108.out 6).trans rfl; have hcz55_7 : w53.cell? ⟨gb108, 7, none⟩ = some (.int .i64 0) := (zK BK108.out 7).trans rfl; have hcz55_8 : w53.cell? ⟨gb108, 8, none⟩ = some (.int .i64 0) := (zK BK108.out 8).trans rfl; have hfz55_0 := zL BK108.out 0; have hfz55_1 := zL BK108.out 1; have hfz55_2 := zL BK108.out 2; have hfz55_3 := zL BK108.out 3; have hfz55_4 := zL BK108.out 4; have hfz55_5 := zL BK108.out 5; have hfz55_6 := zL BK108.out 6; have hfz55_7 := zL BK108.out 7; have hfz55_8 := zL BK108.out 8))
   refine bodyPost_ret (results_ct rfl _ _ gb108 48 #[.int .i64 t109, .int .i64 t110, .int .i64 t111, .int .i64 t112, .int .i64 t113, .int .i64 t114, .int .i64 t115, .int .i64 t116, .int .i64 t117] (0, 0) _ rfl (by (with_reducible repeat (first | refine zH ?_ _ | refine zI ?_ | refine zG ?_ _)); refine blk_put (cs := #[.int .i64 t109, .int .i64 t110, .int .i64 t111, .int .i64 t112, .int .i64 t113, .int .i64 t114, .int .i64 t115, .int .i64 t116, .int .i64 0]) ?_ 8 _ rfl; (with_reducible repeat (first | refine zH ?_ _ | refine zI ?_ | refine zG ?_ _)); refine blk_put (cs := #[.int .i64 t109, .int .i64 t110, .int .i64 t111, .int .i64 t112, .int .i64 t113, .int .i64 t114, .int .i64 t115, .int .i64 0, .int .i64 0]) ?_ 7 _ rfl; (with_reducible repeat (first | refine zH ?_ _ | refine zI ?_ | refine zG ?_ _)); refine blk_put (cs := #[.int .i64 t109, .int .i64 t110, .int .i64 t111, .int .i64 t112, .int .i64 t113, .int .i64 t114, .int .i64 0, .int .i64 0, .int .i64 0]) ?_ 6 _ rfl; (with_reducible repeat (first | refine zH ?_ _ | refine zI ?_ | refine zG ?_ _)); refine blk_put (cs := #[.int .i64 t109, .int .i64 t110, .int .i64 t111, .int .i64 t112, .int .i64 t113, .int .i64 0, .int .i64 0, .int .i64 0, .int .i64 0]) ?_ 5 _ rfl; (with_reducible repeat (first | refine zH ?_ _ | refine zI ?_ | refine zG ?_ _)); refine blk_put (cs := #[.int .i64 t109, .int .i64 t110, .int .i64 t111, .int .i64 t112, .int .i64 0, .int .i64 0, .int .i64 0, .int .i64 0, .int .i64 0]) ?_ 4 _ rfl; (with_reducible repeat (first | refine zH ?_ _ | refine zI ?_ | refine zG ?_ _)); refine blk_put (cs := #[.int .i64 t109, .int .i64 t110, .int .i64 t111, .int .i64 0, .int .i64 0, .int .i64 0, .int .i64 0, .int .i64 0, .int .i64 0]) ?_ 3 _ rfl; (with_reducible repeat (first | refine zH ?_ _ | refine zI ?_ | refine zG ?_ _)); refine blk_put (cs := #[.int .i64 t109, .int .i64 t110, .int .i64 0, .int .i64 0, .int .i64 0, .int .i64 0, .int .i64 0, .int .i64 0, .int .i64 0]) ?_ 2 _ rfl; (with_reducible repeat (first | refine zH ?_ _ | refine zI ?_ | refine zG ?_ _)); refine blk_put (cs := #[.int .i64 t109, .int .i64 0, .int .i64 0, .int .i64 0, .int .i64 0, .int .i64 0, .int .i64 0, .int .i64 0, .int .i64 0]) ?_ 1 _ rfl; (with_reducible repeat (first | refine zH ?_ _ | refine zI ?_ | refine zG ?_ _)); refine blk_put (cs := #[.int .i64 0, .int .i64 0, .int .i64 0, .int .i64 0, .int .i64 0, .int .i64 0, .int .i64 0, .int .i64 0, .int .i64 0]) ?_ 0 _ rfl; (with_reducible repeat (first | refine zH ?_ _ | refine zI ?_ | refine zG ?_ _)); exact BK108.out) Try.underlying48 rfl (by kernel_rfl)) rfl ?_
   exact ⟨by first | rfl | (simp [errW_none, errW_some] <;> rfl) | (simp [*, errW_none, errW_some] <;> rfl), by repeat (first | (with_reducible first | exact HB.out | apply zF | apply zD | apply zE | refine zJ ?_ GE108.out | refine zJ ?_ GE118.out) | exact HB.out)⟩
  ·exfalso
   rw [if_neg c30] at H
   simp at H
 ·exfalso
  rw [if_neg c2] at H
  simp at H
end Go.Proofs.Ytfapfpkijeaapaa.P

-- Written by a program of this session (wip/mkprint.py). Not trusted: Lean checks it.
import Derived.Test.YtfapfpkijeaapaaP0
import Derived.Test.YtfapfpkijeaapaaP7
import Derived.Test.YtfapfpkijeaapaaP12
import Derived.Test.YtfapfpkijeaapaaP13
namespace Go.Proofs.Ytfapfpkijeaapaa.P
open Go.RowKit Go.Proofs.YtfapfpkijeaapaaW.PrintWords Go.Proofs.YtfapfpkijeaapaaW.PrintLast Go.Proofs.YtfapfpkijeaapaaW.PrintMore
attribute [local go_sem] max2_int min2_int max_two min_two max_three min_three max_four min_four   -- for this text's walks alone
set_option linter.unusedVariables false
set_option linter.unusedSimpArgs false

/-! ### ref23_Get: function 42 -/
def ref23_Get.f (a0 : ByteArray) : Option (Int × Int × Int × Int × Int × Int × Int × Int × Int × Bool) := if (a0.size : Int) = 20 then ((ref23_number.f a0 0).bind fun t299 => ((ref23_number.f a0 6).bind fun t300 => (if 12 < (a0.size : Int) then (if 13 < (a0.size : Int) then ((ref23_less.f (bt a0 13)).bind fun t301 => (if 14 < (a0.size : Int) then (if 15 < (a0.size : Int) then (if 16 < (a0.size : Int) then (if 17 < (a0.size : Int) then ((ref23_less.f (bt a0 17)).bind fun t302 => ((ref01_At.f a0 18).bind fun t303 => ((ref23_Right.f t299 t300 (wrap64 (bt a0 12)) t301 (wrap64 (bt a0 14)) (wrap64 (bt a0 15)) (wrap64 (bt a0 16)) t302 t303).bind fun t305 => (if t305 = true then (some (t299, t300, wrap64 (bt a0 12), t301, wrap64 (bt a0 14), wrap64 (bt a0 15), wrap64 (bt a0 16), t302, t303, true)) else (some (0, 0, 0, 0, 0, 0, 0, 0, 0, false)))))) else (none)) else (none)) else (none)) else (none))) else (none)) else (none)))) else (some (0, 0, 0, 0, 0, 0, 0, 0, 0, false))
def ref23_Get.T3 : Bool × List (List Nat × List Nat) := (true, [([], []), ([0], [0]), ([], []), ([2, 1], [2]), ([], []), ([4], [4]), ([5], [5]), ([], []), ([7], [7]), ([8, 3], [8]), ([], []), ([10], [10]), ([11], [11]), ([], []), ([13], [13]), ([14], [14]), ([], []), ([16], [16]), ([17], [17]), ([], []), ([19], [19]), ([20, 9], [20]), ([], []), ([22, 21], [22]), ([1, 3, 6, 9, 12, 15, 18, 21, 23], [1, 3, 6, 9, 12, 15, 18, 21, 23]), ([], []), ([25, 24, 23, 0, 1, 2, 3, 4, 5, 6, 7, 8, 9, 10, 11, 12, 13, 14, 15, 16, 17, 18, 19, 20, 21, 22, 23, 24, 25], [24, 25])])
def ref23_Get.B3 : List Nat := [0, 1, 0, 7, 0, 16, 48, 0, 128, 399, 0, 1024, 3072, 0, 8192, 24576, 0, 65536, 196608, 0, 524288, 1573775, 0, 7865231, 16777215, 0, 67108863]
theorem ref23_Get.tab3 : rtab .any (opsOf Try.f42 3) = ref23_Get.T3 := by kernel_rfl
theorem ref23_Get.bits3 : waitsOk ref23_Get.T3.2 ref23_Get.B3 = true := by kernel_rfl
set_option maxHeartbeats 8000000 in
set_option maxRecDepth 100000 in
theorem ref23_Get.calls (a0 : ByteArray) (r1 : Int) (r2 : Int) (r3 : Int) (r4 : Int) (r5 : Int) (r6 : Int) (r7 : Int) (r8 : Int) (r9 : Int) (r10 : Bool) (w : World) (h : ref23_Get.f a0 = some (r1, r2, r3, r4, r5, r6, r7, r8, r9, r10)) :
 Calls Try.prog 42 #[.string a0] w fun e w' => e = .returned (.tuple #[.agg #[.int .i64 r1, .int .i64 r2, .int .i64 r3, .int .i64 r4, .int .i64 r5, .int .i64 r6, .int .i64 r7, .int .i64 r8, .int .i64 r9], .bool r10]) ∧ Below w.heap.size w w' := by
 have hu48 := Try.underlying48
 have HB := Aside0.mk (Below.refl w.heap.size w)
 have H : (if (a0.size : Int) = 20 then ((ref23_number.f a0 0).bind fun t299 => ((ref23_number.f a0 6).bind fun t300 => (if 12 < (a0.size : Int) then (if 13 < (a0.size : Int) then ((ref23_less.f (bt a0 13)).bind fun t301 => (if 14 < (a0.size : Int) then (if 15 < (a0.size : Int) then (if 16 < (a0.size : Int) then (if 17 < (a0.size : Int) then ((ref23_less.f (bt a0 17)).bind fun t302 => ((ref01_At.f a0 18).bind fun t303 => ((ref23_Right.f t299 t300 (wrap64 (bt a0 12)) t301 (wrap64 (bt a0 14)) (wrap64 (bt a0 15)) (wrap64 (bt a0 16)) t302 t303).bind fun t305 => (if t305 = true then (some (t299, t300, wrap64 (bt a0 12), t301, wrap64 (bt a0 14), wrap64 (bt a0 15), wrap64 (bt a0 16), t302, t303, true)) else (some (0, 0, 0, 0, 0, 0, 0, 0, 0, false)))))) else (none)) else (none)) else (none)) else (none))) else (none)) else (none)))) else (some (0, 0, 0, 0, 0, 0, 0, 0, 0, false))) = some (r1, r2, r3, r4, r5, r6, r7, r8, r9, r10) := h
 clear h
 by_cases c2 : (a0.size : Int) = 20
 ·rw [if_pos c2] at H
  have c2b0 : ((a0.size : Int) == 20) = true := beq_iff_eq.mpr c2
  have c2b1 : ((a0.size : Int) != 20) = false := bne_eq_false_iff_eq.mpr c2
  clear c2
  replace H := Option.bind_eq_some_iff.mp H
  obtain ⟨t299, A30, H⟩ := H
  replace H : ((ref23_number.f a0 6).bind fun t300 => (if 12 < (a0.size : Int) then (if 13 < (a0.size : Int) then ((ref23_less.f (bt a0 13)).bind fun t301 => (if 14 < (a0.size : Int) then (if 15 < (a0.size : Int) then (if 16 < (a0.size : Int) then (if 17 < (a0.size : Int) then ((ref23_less.f (bt a0 17)).bind fun t302 => ((ref01_At.f a0 18).bind fun t303 => ((ref23_Right.f t299 t300 (wrap64 (bt a0 12)) t301 (wrap64 (bt a0 14)) (wrap64 (bt a0 15)) (wrap64 (bt a0 16)) t302 t303).bind fun t305 => (if t305 = true then (some (t299, t300, wrap64 (bt a0 12), t301, wrap64 (bt a0 14), wrap64 (bt a0 15), wrap64 (bt a0 16), t302, t303, true)) else (some (0, 0, 0, 0, 0, 0, 0, 0, 0, false)))))) else (none)) else (none)) else (none)) else (none))) else (none)) else (none))) = some (r1, r2, r3, r4, r5, r6, r7, r8, r9, r10) := H
  have A3 := Aside0.mk A30
  clear A30
  replace H := Option.bind_eq_some_iff.mp H
  obtain ⟨t300, A40, H⟩ := H
  replace H : (if 12 < (a0.size : Int) then (if 13 < (a0.size : Int) then ((ref23_less.f (bt a0 13)).bind fun t301 => (if 14 < (a0.size : Int) then (if 15 < (a0.size : Int) then (if 16 < (a0.size : Int) then (if 17 < (a0.size : Int) then ((ref23_less.f (bt a0 17)).bind fun t302 => ((ref01_At.f a0 18).bind fun t303 => ((ref23_Right.f t299 t300 (wrap64 (bt a0 12)) t301 (wrap64 (bt a0 14)) (wrap64 (bt a0 15)) (wrap64 (bt a0 16)) t302 t303).bind fun t305 => (if t305 = true then (some (t299, t300, wrap64 (bt a0 12), t301, wrap64 (bt a0 14), wrap64 (bt a0 15), wrap64 (bt a0 16), t302, t303, true)) else (some (0, 0, 0, 0, 0, 0, 0, 0, 0, false)))))) else (none)) else (none)) else (none)) else (none))) else (none)) else (none)) = some (r1, r2, r3, r4, r5, r6, r7, r8, r9, r10) := H
  have A4 := Aside0.mk A40
  clear A40
  by_cases c5 : 12 < (a0.size : Int)
  rotate_left
  ·rw [if_neg c5] at H
   exact absurd H (by simp)
  rw [if_pos c5] at H
  have c5b0 : decide (12 < (a0.size : Int)) = true := zW c5
  have c5b1 : decide (12 < a0.size) = true := zW (by omega)
  clear c5
  by_cases c7 : 13 < (a0.size : Int)
  rotate_left
  ·rw [if_neg c7] at H
   exact absurd H (by simp)
  rw [if_pos c7] at H
  have c7b0 : decide (13 < (a0.size : Int)) = true := zW c7
  have c7b1 : decide (13 < a0.size) = true := zW (by omega)
  clear c7
  replace H := Option.bind_eq_some_iff.mp H
  obtain ⟨t301, A90, H⟩ := H
  replace H : (if 14 < (a0.size : Int) then (if 15 < (a0.size : Int) then (if 16 < (a0.size : Int) then (if 17 < (a0.size : Int) then ((ref23_less.f (bt a0 17)).bind fun t302 => ((ref01_At.f a0 18).bind fun t303 => ((ref23_Right.f t299 t300 (wrap64 (bt a0 12)) t301 (wrap64 (bt a0 14)) (wrap64 (bt a0 15)) (wrap64 (bt a0 16)) t302 t303).bind fun t305 => (if t305 = true then (some (t299, t300, wrap64 (bt a0 12), t301, wrap64 (bt a0 14), wrap64 (bt a0 15), wrap64 (bt a0 16), t302, t303, true)) else (some (0, 0, 0, 0, 0, 0, 0, 0, 0, false)))))) else (none)) else (none)) else (none)) else (none)) = some (r1, r2, r3, r4, r5, r6, r7, r8, r9, r10) := H
  have A9 := Aside0.mk A90
  clear A90
  by_cases c10 : 14 < (a0.size : Int)
  rotate_left
  ·rw [if_neg c10] at H
   exact absurd H (by simp)
  rw [if_pos c10] at H
  have c10b0 : decide (14 < (a0.size : Int)) = true := zW c10
  have c10b1 : decide (14 < a0.size) = true := zW (by omega)
  clear c10
  by_cases c12 : 15 < (a0.size : Int)
  rotate_left
  ·rw [if_neg c12] at H
   exact absurd H (by simp)
  rw [if_pos c12] at H
  have c12b0 : decide (15 < (a0.size : Int)) = true := zW c12
  have c12b1 : decide (15 < a0.size) = true := zW (by omega)
  clear c12
  by_cases c14 : 16 < (a0.size : Int)
  rotate_left
  ·rw [if_neg c14] at H
   exact absurd H (by simp)
  rw [if_pos c14] at H
  have c14b0 : decide (16 < (a0.size : Int)) = true := zW c14
  have c14b1 : decide (16 < a0.size) = true := zW (by omega)
  clear c14
  by_cases c16 : 17 < (a0.size : Int)
  rotate_left
  ·rw [if_neg c16] at H
   exact absurd H (by simp)
  rw [if_pos c16] at H
  have c16b0 : decide (17 < (a0.size : Int)) = true := zW c16
  have c16b1 : decide (17 < a0.size) = true := zW (by omega)
  clear c16
  replace H := Option.bind_eq_some_iff.mp H
  obtain ⟨t302, A180, H⟩ := H
  replace H : ((ref01_At.f a0 18).bind fun t303 => ((ref23_Right.f t299 t300 (wrap64 (bt a0 12)) t301 (wrap64 (bt a0 14)) (wrap64 (bt a0 15)) (wrap64 (bt a0 16)) t302 t303).bind fun t305 => (if t305 = true then (some (t299, t300, wrap64 (bt a0 12), t301, wrap64 (bt a0 14), wrap64 (bt a0 15), wrap64 (bt a0 16), t302, t303, true)) else (some (0, 0, 0, 0, 0, 0, 0, 0, 0, false))))) = some (r1, r2, r3, r4, r5, r6, r7, r8, r9, r10) := H
  have A18 := Aside0.mk A180
  clear A180
  replace H := Option.bind_eq_some_iff.mp H
  obtain ⟨t303, A190, H⟩ := H
  replace H : ((ref23_Right.f t299 t300 (wrap64 (bt a0 12)) t301 (wrap64 (bt a0 14)) (wrap64 (bt a0 15)) (wrap64 (bt a0 16)) t302 t303).bind fun t305 => (if t305 = true then (some (t299, t300, wrap64 (bt a0 12), t301, wrap64 (bt a0 14), wrap64 (bt a0 15), wrap64 (bt a0 16), t302, t303, true)) else (some (0, 0, 0, 0, 0, 0, 0, 0, 0, false)))) = some (r1, r2, r3, r4, r5, r6, r7, r8, r9, r10) := H
  have A19 := Aside0.mk A190
  clear A190
  replace H := Option.bind_eq_some_iff.mp H
  obtain ⟨t305, A200, H⟩ := H
  replace H : (if t305 = true then (some (t299, t300, wrap64 (bt a0 12), t301, wrap64 (bt a0 14), wrap64 (bt a0 15), wrap64 (bt a0 16), t302, t303, true)) else (some (0, 0, 0, 0, 0, 0, 0, 0, 0, false))) = some (r1, r2, r3, r4, r5, r6, r7, r8, r9, r10) := H
  have A20 := Aside0.mk A200
  clear A200
  by_cases c21 : t305 = true
  ·subst c21
   have H1 : (some (t299, t300, wrap64 (bt a0 12), t301, wrap64 (bt a0 14), wrap64 (bt a0 15), wrap64 (bt a0 16), t302, t303, true)) = some (r1, r2, r3, r4, r5, r6, r7, r8, r9, r10) := by rw [if_pos rfl] at H; exact H
   clear H
   have H := H1
   clear H1
   simp only [Option.some.injEq, Prod.mk.injEq] at H
   obtain ⟨rfl, rfl, rfl, rfl, rfl, rfl, rfl, rfl, rfl, rfl⟩ := H
   go_enter Try.func42, Try.ntmps42
   try go_wp2_with (first | ((with_reducible refine gate_dst (N := 2) rfl ?_); refine box_event ?hg (N := 2) ?hd (cs := #[.int .i64 0, .int .i64 0, .int .i64 0, .int .i64 0, .int .i64 0, .int .i64 0, .int .i64 0, .int .i64 0, .int .i64 0]) (t := 48) ?hr ?_; (case hd => rfl); (case hg => rfl); (case hr => first | (go_simp; done) | (go_simp; rfl)); intro gb298 hg w22 hbox hb; have n0_ := Aside0.mk (zU (by repeat (first | (with_reducible first | exact HB.out | apply zF | apply zD | apply zE) | exact HB.out)) hb); have n1_ := Aside0.mk (hbox); have n2_ := Aside0.mk ((by rw [hg]; exact (zT (by repeat (first | (with_reducible first | exact HB.out | apply zF | apply zD | apply zE) | exact HB.out))) : w.heap.size ≤ gb298)); have n3_ := Aside0.mk ((by rw [hg]; exact (zT (by repeat (first | (with_reducible first | exact HB.out | apply zF | apply zD | apply zE) | exact HB.out))) : w.heap.size ≤ gb298)); clear HB; have HB := n0_; have BK298 := n1_; have GW298 := n2_; have GE298 := n3_; clear n0_ n1_ n2_ n3_; clear hb hbox hg))
   have n0_ := Aside0.mk (zI BK298.out)
   have n1_ := Aside0.mk (zE HB.out)
   clear BK298
   clear HB
   have BK298 := n0_
   have HB := n1_
   clear n0_ n1_
   have p6 : 0 ≤ (12 : Int) := (by omega)
   have q6 : 12 < a0.size := (by have : (12 : Int) < (a0.size : Int) := zV (by first | (with_reducible assumption) | assumption); omega)
   have hx6 : ∀ h : 12 < a0.size, ((a0[12]'h).toNat : Int) = bt a0 12 := bt_at a0 12
   clear p6
   have qi6 : (12 < (a0.size : Int)) = True := eq_true (zV (by first | (with_reducible assumption) | assumption))
   replace q6 := eq_true q6
   have p8 : 0 ≤ (13 : Int) := (by omega)
   have q8 : 13 < a0.size := (by have : (13 : Int) < (a0.size : Int) := zV (by first | (with_reducible assumption) | assumption); omega)
   have hx8 : ∀ h : 13 < a0.size, ((a0[13]'h).toNat : Int) = bt a0 13 := bt_at a0 13
   clear p8
   have qi8 : (13 < (a0.size : Int)) = True := eq_true (zV (by first | (with_reducible assumption) | assumption))
   replace q8 := eq_true q8
   have p11 : 0 ≤ (14 : Int) := (by omega)
   have q11 : 14 < a0.size := (by have : (14 : Int) < (a0.size : Int) := zV (by first | (with_reducible assumption) | assumption); omega)
   have hx11 : ∀ h : 14 < a0.size, ((a0[14]'h).toNat : Int) = bt a0 14 := bt_at a0 14
   clear p11
   have qi11 : (14 < (a0.size : Int)) = True := eq_true (zV (by first | (with_reducible assumption) | assumption))
   replace q11 := eq_true q11
   have p13 : 0 ≤ (15 : Int) := (by omega)
   have q13 : 15 < a0.size := (by have : (15 : Int) < (a0.size : Int) := zV (by first | (with_reducible assumption) | assumption); omega)
   have hx13 : ∀ h : 15 < a0.size, ((a0[15]'h).toNat : Int) = bt a0 15 := bt_at a0 15
   clear p13
   have qi13 : (15 < (a0.size : Int)) = True := eq_true (zV (by first | (with_reducible assumption) | assumption))
   replace q13 := eq_true q13
   have p15 : 0 ≤ (16 : Int) := (by omega)
   have q15 : 16 < a0.size := (by have : (16 : Int) < (a0.size : Int) := zV (by first | (with_reducible assumption) | assumption); omega)
   have hx15 : ∀ h : 16 < a0.size, ((a0[16]'h).toNat : Int) = bt a0 16 := bt_at a0 16
   clear p15
   have qi15 : (16 < (a0.size : Int)) = True := eq_true (zV (by first | (with_reducible assumption) | assumption))
   replace q15 := eq_true q15
   have p17 : 0 ≤ (17 : Int) := (by omega)
   have q17 : 17 < a0.size := (by have : (17 : Int) < (a0.size : Int) := zV (by first | (with_reducible assumption) | assumption); omega)
   have hx17 : ∀ h : 17 < a0.size, ((a0[17]'h).toNat : Int) = bt a0 17 := bt_at a0 17
   clear p17
   have qi17 : (17 < (a0.size : Int)) = True := eq_true (zV (by first | (with_reducible assumption) | assumption))
   replace q17 := eq_true q17
   refine start_ (n := 27) (S := fun w' => True) (ds := []) #[false, false, false, false, false, false, false, false, false, false, false, false, false, false, false, false, false, false, false, false, false, false, false, false, false, false, false] (by kernel_rfl) rfl rfl trivial (fun hHeld => ?_); refine with_tabW ref23_Get.tab3 ref23_Get.bits3 (fun HT_ HW_ => ?_)
   generalize w22.drew = w23 at BK298 HB hHeld ⊢
   refine pure_ (i := 0) (N := some 9) (v := ?_) (a' := ?_) #[true, false, false, false, false, false, false, false, false, false, false, false, false, false, false, false, false, false, false, false, false, false, false, false, false, false, false] rfl rfl (any_of HT_.out (by kernel_rfl)) (fun _ _ _ h => h) (Or.inl ⟨by rfl, ?_⟩) ?_ ?_
   rotate_left
   ·intro w'
    go_simp
    with_reducible rfl
   rotate_left
   ·simp only [Act.put, zA, zB, zC, i64_w, i32_w]
    rfl
   refine pure_ (i := 2) (N := some 11) (v := ?_) (a' := ?_) #[true, false, true, false, false, false, false, false, false, false, false, false, false, false, false, false, false, false, false, false, false, false, false, false, false, false, false] rfl rfl (any_of HT_.out (by kernel_rfl)) (fun _ _ _ h => h) (Or.inl ⟨by rfl, ?_⟩) ?_ ?_
   rotate_left
   ·intro w'
    go_simp
    with_reducible rfl
   rotate_left
   ·simp only [Act.put, zA, zB, zC, i64_w, i32_w]
    rfl
   refine pure_ (i := 4) (N := some 13) (v := ?_) (a' := ?_) #[true, false, true, false, true, false, false, false, false, false, false, false, false, false, false, false, false, false, false, false, false, false, false, false, false, false, false] rfl rfl (any_of HT_.out (by kernel_rfl)) (fun _ _ _ h => h) (Or.inl ⟨by rfl, ?_⟩) ?_ ?_
   rotate_left
   ·intro w'
    go_simp
    with_reducible rfl
   rotate_left
   ·simp only [Act.put, zA, zB, zC, i64_w, i32_w]
    rfl
   refine pure_ (i := 7) (N := some 16) (v := ?_) (a' := ?_) #[true, false, true, false, true, false, false, true, false, false, false, false, false, false, false, false, false, false, false, false, false, false, false, false, false, false, false] rfl rfl (any_of HT_.out (by kernel_rfl)) (fun _ _ _ h => h) (Or.inl ⟨by rfl, ?_⟩) ?_ ?_
   rotate_left
   ·intro w'
    go_simp
    with_reducible rfl
   rotate_left
   ·simp only [Act.put, zA, zB, zC, i64_w, i32_w]
    rfl
   refine pure_ (i := 10) (N := some 19) (v := ?_) (a' := ?_) #[true, false, true, false, true, false, false, true, false, false, true, false, false, false, false, false, false, false, false, false, false, false, false, false, false, false, false] rfl rfl (any_of HT_.out (by kernel_rfl)) (fun _ _ _ h => h) (Or.inl ⟨by rfl, ?_⟩) ?_ ?_
   rotate_left
   ·intro w'
    go_simp
    with_reducible rfl
   rotate_left
   ·simp only [Act.put, zA, zB, zC, i64_w, i32_w]
    rfl
   refine pure_ (i := 13) (N := some 22) (v := ?_) (a' := ?_) #[true, false, true, false, true, false, false, true, false, false, true, false, false, true, false, false, false, false, false, false, false, false, false, false, false, false, false] rfl rfl (any_of HT_.out (by kernel_rfl)) (fun _ _ _ h => h) (Or.inl ⟨by rfl, ?_⟩) ?_ ?_
   rotate_left
   ·intro w'
    go_simp
    with_reducible rfl
   rotate_left
   ·simp only [Act.put, zA, zB, zC, i64_w, i32_w]
    rfl
   refine pure_ (i := 16) (N := some 25) (v := ?_) (a' := ?_) #[true, false, true, false, true, false, false, true, false, false, true, false, false, true, false, false, true, false, false, false, false, false, false, false, false, false, false] rfl rfl (any_of HT_.out (by kernel_rfl)) (fun _ _ _ h => h) (Or.inl ⟨by rfl, ?_⟩) ?_ ?_
   rotate_left
   ·intro w'
    go_simp
    with_reducible rfl
   rotate_left
   ·simp only [Act.put, zA, zB, zC, i64_w, i32_w]
    rfl
   refine pure_ (i := 19) (N := some 28) (v := ?_) (a' := ?_) #[true, false, true, false, true, false, false, true, false, false, true, false, false, true, false, false, true, false, false, true, false, false, false, false, false, false, false] rfl rfl (any_of HT_.out (by kernel_rfl)) (fun _ _ _ h => h) (Or.inl ⟨by rfl, ?_⟩) ?_ ?_
   rotate_left
   ·intro w'
    go_simp
    with_reducible rfl
   rotate_left
   ·simp only [Act.put, zA, zB, zC, i64_w, i32_w]
    rfl
   refine pure_ (i := 22) (N := some 31) (v := ?_) (a' := ?_) #[true, false, true, false, true, false, false, true, false, false, true, false, false, true, false, false, true, false, false, true, false, false, true, false, false, false, false] rfl rfl (any_of HT_.out (by kernel_rfl)) (fun _ _ _ h => h) (Or.inl ⟨by rfl, ?_⟩) ?_ ?_
   rotate_left
   ·intro w'
    go_simp
    with_reducible rfl
   rotate_left
   ·simp only [Act.put, zA, zB, zC, i64_w, i32_w]
    rfl
   refine take_ (i := 5) (N := some 14) (v := ?_) (a' := ?_) #[true, false, true, false, true, true, false, true, false, false, true, false, false, true, false, false, true, false, false, true, false, false, true, false, false, false, false] rfl rfl (take_ofW HT_.out HW_.out (by kernel_rfl)) (fun _ _ _ h => h) (Or.inl ⟨by rfl, ?_⟩) hHeld ?_ ?_
   rotate_left
   ·intro w' _
    go_simp
    with_reducible rfl
   rotate_left
   ·simp only [Act.put, zA, zB, zC, i64_w, i32_w]
    rfl
   refine pure_ (i := 6) (N := some 15) (v := ?_) (a' := ?_) #[true, false, true, false, true, true, true, true, false, false, true, false, false, true, false, false, true, false, false, true, false, false, true, false, false, false, false] rfl rfl (any_of HT_.out (by kernel_rfl)) (fun _ _ _ h => h) (Or.inl ⟨by rfl, ?_⟩) ?_ ?_
   rotate_left
   ·intro w'
    go_simp
    with_reducible rfl
   rotate_left
   ·simp only [Act.put, zA, zB, zC, i64_w, i32_w]
    rfl
   refine take_ (i := 8) (N := some 17) (v := ?_) (a' := ?_) #[true, false, true, false, true, true, true, true, true, false, true, false, false, true, false, false, true, false, false, true, false, false, true, false, false, false, false] rfl rfl (take_ofW HT_.out HW_.out (by kernel_rfl)) (fun _ _ _ h => h) (Or.inl ⟨by rfl, ?_⟩) hHeld ?_ ?_
   rotate_left
   ·intro w' _
    go_simp
    with_reducible rfl
   rotate_left
   ·simp only [Act.put, zA, zB, zC, i64_w, i32_w]
    rfl
   refine take_ (i := 11) (N := some 20) (v := ?_) (a' := ?_) #[true, false, true, false, true, true, true, true, true, false, true, true, false, true, false, false, true, false, false, true, false, false, true, false, false, false, false] rfl rfl (take_ofW HT_.out HW_.out (by kernel_rfl)) (fun _ _ _ h => h) (Or.inl ⟨by rfl, ?_⟩) hHeld ?_ ?_
   rotate_left
   ·intro w' _
    go_simp
    with_reducible rfl
   rotate_left
   ·simp only [Act.put, zA, zB, zC, i64_w, i32_w]
    rfl
   refine pure_ (i := 12) (N := some 21) (v := ?_) (a' := ?_) #[true, false, true, false, true, true, true, true, true, false, true, true, true, true, false, false, true, false, false, true, false, false, true, false, false, false, false] rfl rfl (any_of HT_.out (by kernel_rfl)) (fun _ _ _ h => h) (Or.inl ⟨by rfl, ?_⟩) ?_ ?_
   rotate_left
   ·intro w'
    go_simp
    with_reducible rfl
   rotate_left
   ·simp only [Act.put, zA, zB, zC, i64_w, i32_w]
    rfl
   refine take_ (i := 14) (N := some 23) (v := ?_) (a' := ?_) #[true, false, true, false, true, true, true, true, true, false, true, true, true, true, true, false, true, false, false, true, false, false, true, false, false, false, false] rfl rfl (take_ofW HT_.out HW_.out (by kernel_rfl)) (fun _ _ _ h => h) (Or.inl ⟨by rfl, ?_⟩) hHeld ?_ ?_
   rotate_left
   ·intro w' _
    go_simp
    with_reducible rfl
   rotate_left
   ·simp only [Act.put, zA, zB, zC, i64_w, i32_w]
    rfl
   refine pure_ (i := 15) (N := some 24) (v := ?_) (a' := ?_) #[true, false, true, false, true, true, true, true, true, false, true, true, true, true, true, true, true, false, false, true, false, false, true, false, false, false, false] rfl rfl (any_of HT_.out (by kernel_rfl)) (fun _ _ _ h => h) (Or.inl ⟨by rfl, ?_⟩) ?_ ?_
   rotate_left
   ·intro w'
    go_simp
    with_reducible rfl
   rotate_left
   ·simp only [Act.put, zA, zB, zC, i64_w, i32_w]
    rfl
   refine take_ (i := 17) (N := some 26) (v := ?_) (a' := ?_) #[true, false, true, false, true, true, true, true, true, false, true, true, true, true, true, true, true, true, false, true, false, false, true, false, false, false, false] rfl rfl (take_ofW HT_.out HW_.out (by kernel_rfl)) (fun _ _ _ h => h) (Or.inl ⟨by rfl, ?_⟩) hHeld ?_ ?_
   rotate_left
   ·intro w' _
    go_simp
    with_reducible rfl
   rotate_left
   ·simp only [Act.put, zA, zB, zC, i64_w, i32_w]
    rfl
   refine pure_ (i := 18) (N := some 27) (v := ?_) (a' := ?_) #[true, false, true, false, true, true, true, true, true, false, true, true, true, true, true, true, true, true, true, true, false, false, true, false, false, false, false] rfl rfl (any_of HT_.out (by kernel_rfl)) (fun _ _ _ h => h) (Or.inl ⟨by rfl, ?_⟩) ?_ ?_
   rotate_left
   ·intro w'
    go_simp
    with_reducible rfl
   rotate_left
   ·simp only [Act.put, zA, zB, zC, i64_w, i32_w]
    rfl
   refine take_ (i := 20) (N := some 29) (v := ?_) (a' := ?_) #[true, false, true, false, true, true, true, true, true, false, true, true, true, true, true, true, true, true, true, true, true, false, true, false, false, false, false] rfl rfl (take_ofW HT_.out HW_.out (by kernel_rfl)) (fun _ _ _ h => h) (Or.inl ⟨by rfl, ?_⟩) hHeld ?_ ?_
   rotate_left
   ·intro w' _
    go_simp
    with_reducible rfl
   rotate_left
   ·simp only [Act.put, zA, zB, zC, i64_w, i32_w]
    rfl
   refine join_ (σ := Nat) 1 #[true, true, true, true, true, true, true, true, true, true, true, true, true, true, true, true, true, true, true, true, true, true, true, true, true, true, false] (fun s_ => [(10, .int .i64 t299), (12, .int .i64 t300), (18, .int .i64 t301), (30, .int .i64 t302), (32, .int .i64 t303), (4, .pointer (some ⟨s_, 0, none⟩)), (33, .agg #[.int .i64 t299, .int .i64 t300, .int .i64 (wrap64 (bt a0 12)), .int .i64 t301, .int .i64 (wrap64 (bt a0 14)), .int .i64 (wrap64 (bt a0 15)), .int .i64 (wrap64 (bt a0 16)), .int .i64 t302, .int .i64 t303])]) (fun s_ w' => (w'.heap[gb298]? = some (.cells #[.int .i64 0, .int .i64 0, .int .i64 0, .int .i64 0, .int .i64 0, .int .i64 0, .int .i64 0, .int .i64 0, .int .i64 0] 48 (0, 0))) ∧ (w'.heap[s_]? = some (.cells #[.int .i64 0, .int .i64 0, .int .i64 0, .int .i64 0, .int .i64 0, .int .i64 0, .int .i64 0, .int .i64 0, .int .i64 0] 48 (0, 0))) ∧ (w.heap.size ≤ s_) ∧ (w.heap.size ≤ s_) ∧ (gb298 ≠ s_) ∧ (s_ ≠ gb298) ∧ (Below w.heap.size w w')) ?_ ?_
   rotate_left
   ·intro hJ1_3_9_21_23_25
    refine join_ (σ := Unit) 2 #[true, true, true, true, true, true, true, true, true, true, true, true, true, true, true, true, true, true, true, true, true, true, true, true, true, false, false] (fun s_ => [(10, .int .i64 t299), (12, .int .i64 t300), (18, .int .i64 t301), (30, .int .i64 t302), (32, .int .i64 t303), (33, .agg #[.int .i64 t299, .int .i64 t300, .int .i64 (wrap64 (bt a0 12)), .int .i64 t301, .int .i64 (wrap64 (bt a0 14)), .int .i64 (wrap64 (bt a0 15)), .int .i64 (wrap64 (bt a0 16)), .int .i64 t302, .int .i64 t303])]) (fun s_ w' => (w'.heap[gb298]? = some (.cells #[.int .i64 0, .int .i64 0, .int .i64 0, .int .i64 0, .int .i64 0, .int .i64 0, .int .i64 0, .int .i64 0, .int .i64 0] 48 (0, 0))) ∧ (Below w.heap.size w w')) ?_ ?_
    rotate_left
    ·intro hJ1_3_9_21_23
     refine join_ (σ := Nat) 3 #[true, true, true, true, true, true, true, true, true, true, true, true, true, true, true, true, true, true, true, true, true, true, true, false, false, true, false] (fun s_ => [(10, .int .i64 t299), (12, .int .i64 t300), (18, .int .i64 t301), (30, .int .i64 t302), (4, .pointer (some ⟨s_, 0, none⟩))]) (fun s_ w' => (w'.heap[gb298]? = some (.cells #[.int .i64 0, .int .i64 0, .int .i64 0, .int .i64 0, .int .i64 0, .int .i64 0, .int .i64 0, .int .i64 0, .int .i64 0] 48 (0, 0))) ∧ (w'.heap[s_]? = some (.cells #[.int .i64 0, .int .i64 0, .int .i64 0, .int .i64 0, .int .i64 0, .int .i64 0, .int .i64 0, .int .i64 0, .int .i64 0] 48 (0, 0))) ∧ (w.heap.size ≤ s_) ∧ (w.heap.size ≤ s_) ∧ (gb298 ≠ s_) ∧ (s_ ≠ gb298) ∧ (Below w.heap.size w w')) ?_ ?_
     rotate_left
     ·intro hJ1_3_9_21_25
      refine join_ (σ := Unit) 4 #[true, true, true, true, true, true, true, true, true, true, true, true, true, true, true, true, true, true, true, true, true, true, true, false, false, false, false] (fun s_ => [(10, .int .i64 t299), (12, .int .i64 t300), (18, .int .i64 t301), (30, .int .i64 t302)]) (fun s_ w' => (w'.heap[gb298]? = some (.cells #[.int .i64 0, .int .i64 0, .int .i64 0, .int .i64 0, .int .i64 0, .int .i64 0, .int .i64 0, .int .i64 0, .int .i64 0] 48 (0, 0))) ∧ (Below w.heap.size w w')) ?_ ?_
      rotate_left
      ·intro hJ1_3_9_21
       refine join_ (σ := Nat) 4 #[true, true, true, true, true, true, true, true, true, true, true, true, true, true, true, true, true, true, true, true, true, false, true, false, false, true, false] (fun s_ => [(10, .int .i64 t299), (12, .int .i64 t300), (18, .int .i64 t301), (4, .pointer (some ⟨s_, 0, none⟩))]) (fun s_ w' => (w'.heap[gb298]? = some (.cells #[.int .i64 0, .int .i64 0, .int .i64 0, .int .i64 0, .int .i64 0, .int .i64 0, .int .i64 0, .int .i64 0, .int .i64 0] 48 (0, 0))) ∧ (w'.heap[s_]? = some (.cells #[.int .i64 0, .int .i64 0, .int .i64 0, .int .i64 0, .int .i64 0, .int .i64 0, .int .i64 0, .int .i64 0, .int .i64 0] 48 (0, 0))) ∧ (w.heap.size ≤ s_) ∧ (w.heap.size ≤ s_) ∧ (gb298 ≠ s_) ∧ (s_ ≠ gb298) ∧ (Below w.heap.size w w')) ?_ ?_
       rotate_left
       ·intro hJ1_3_9_25
        refine join_ (σ := Unit) 5 #[true, true, true, true, true, true, true, true, true, true, true, true, true, true, true, true, true, true, true, true, true, false, true, false, false, false, false] (fun s_ => [(10, .int .i64 t299), (12, .int .i64 t300), (18, .int .i64 t301)]) (fun s_ w' => (w'.heap[gb298]? = some (.cells #[.int .i64 0, .int .i64 0, .int .i64 0, .int .i64 0, .int .i64 0, .int .i64 0, .int .i64 0, .int .i64 0, .int .i64 0] 48 (0, 0))) ∧ (Below w.heap.size w w')) ?_ ?_
        rotate_left
        ·intro hJ1_3_9
         refine join_ (σ := Nat) 5 #[true, true, true, true, true, true, true, true, true, false, true, true, true, true, true, true, true, true, true, true, true, false, true, false, false, true, false] (fun s_ => [(10, .int .i64 t299), (12, .int .i64 t300), (4, .pointer (some ⟨s_, 0, none⟩))]) (fun s_ w' => (w'.heap[gb298]? = some (.cells #[.int .i64 0, .int .i64 0, .int .i64 0, .int .i64 0, .int .i64 0, .int .i64 0, .int .i64 0, .int .i64 0, .int .i64 0] 48 (0, 0))) ∧ (w'.heap[s_]? = some (.cells #[.int .i64 0, .int .i64 0, .int .i64 0, .int .i64 0, .int .i64 0, .int .i64 0, .int .i64 0, .int .i64 0, .int .i64 0] 48 (0, 0))) ∧ (w.heap.size ≤ s_) ∧ (w.heap.size ≤ s_) ∧ (gb298 ≠ s_) ∧ (s_ ≠ gb298) ∧ (Below w.heap.size w w')) ?_ ?_
         rotate_left
         ·intro hJ1_3_25
          refine join_ (σ := Unit) 6 #[true, true, true, true, true, true, true, true, true, false, true, true, true, true, true, true, true, true, true, true, true, false, true, false, false, false, false] (fun s_ => [(10, .int .i64 t299), (12, .int .i64 t300)]) (fun s_ w' => (w'.heap[gb298]? = some (.cells #[.int .i64 0, .int .i64 0, .int .i64 0, .int .i64 0, .int .i64 0, .int .i64 0, .int .i64 0, .int .i64 0, .int .i64 0] 48 (0, 0))) ∧ (Below w.heap.size w w')) ?_ ?_
          rotate_left
          ·intro hJ1_3
           refine join_ (σ := Nat) 6 #[true, true, true, false, true, true, true, true, true, false, true, true, true, true, true, true, true, true, true, true, true, false, true, false, false, true, false] (fun s_ => [(10, .int .i64 t299), (4, .pointer (some ⟨s_, 0, none⟩))]) (fun s_ w' => (w'.heap[gb298]? = some (.cells #[.int .i64 0, .int .i64 0, .int .i64 0, .int .i64 0, .int .i64 0, .int .i64 0, .int .i64 0, .int .i64 0, .int .i64 0] 48 (0, 0))) ∧ (w'.heap[s_]? = some (.cells #[.int .i64 0, .int .i64 0, .int .i64 0, .int .i64 0, .int .i64 0, .int .i64 0, .int .i64 0, .int .i64 0, .int .i64 0] 48 (0, 0))) ∧ (w.heap.size ≤ s_) ∧ (w.heap.size ≤ s_) ∧ (gb298 ≠ s_) ∧ (s_ ≠ gb298) ∧ (Below w.heap.size w w')) ?_ ?_
           rotate_left
           ·intro hJ1_25
            refine join_ (σ := Unit) 7 #[true, true, true, false, true, true, true, true, true, false, true, true, true, true, true, true, true, true, true, true, true, false, true, false, false, false, false] (fun s_ => [(10, .int .i64 t299)]) (fun s_ w' => (w'.heap[gb298]? = some (.cells #[.int .i64 0, .int .i64 0, .int .i64 0, .int .i64 0, .int .i64 0, .int .i64 0, .int .i64 0, .int .i64 0, .int .i64 0] 48 (0, 0))) ∧ (Below w.heap.size w w')) ?_ ?_
            rotate_left
            ·intro hJ1
             refine join_ (σ := Nat) 7 #[true, false, true, false, true, true, true, true, true, false, true, true, true, true, true, true, true, true, true, true, true, false, true, false, false, true, false] (fun s_ => [(4, .pointer (some ⟨s_, 0, none⟩))]) (fun s_ w' => (w'.heap[gb298]? = some (.cells #[.int .i64 0, .int .i64 0, .int .i64 0, .int .i64 0, .int .i64 0, .int .i64 0, .int .i64 0, .int .i64 0, .int .i64 0] 48 (0, 0))) ∧ (w'.heap[s_]? = some (.cells #[.int .i64 0, .int .i64 0, .int .i64 0, .int .i64 0, .int .i64 0, .int .i64 0, .int .i64 0, .int .i64 0, .int .i64 0] 48 (0, 0))) ∧ (w.heap.size ≤ s_) ∧ (w.heap.size ≤ s_) ∧ (gb298 ≠ s_) ∧ (s_ ≠ gb298) ∧ (Below w.heap.size w w')) ?_ ?_
             rotate_left
             ·intro hJ25
              refine two_ (i := 1) (j := 25) (Ni := some 10) (Nj := some 4) #[true, true, true, false, true, true, true, true, true, false, true, true, true, true, true, true, true, true, true, true, true, false, true, false, false, false, false] #[true, false, true, false, true, true, true, true, true, false, true, true, true, true, true, true, true, true, true, true, true, false, true, false, false, true, false] rfl rfl rfl rfl (two_of HT_.out (by kernel_rfl)) (by decide) (by decide) (fun K hK => ?_) (fun K hK => ?_)
              ·skip
               refine goes_ Try.func50 (by kernel_rfl) rfl #[.string a0, .int .i64 0] (by rfl) rfl rfl (by (try simp only [zO, zP, zQ]); first | done | rfl | (simp only [zS, zR]; rfl)) ?_
               with_reducible refine (ref23_number.calls a0 0 t299 _ A3.out).mono ?_
               rintro e w' ⟨rfl, ⟨nd, rfl⟩⟩
               refine ⟨_, rfl, ?_⟩
               refine hK.out _ _ trivial (fun hHeld => ?_)
               clear hK K
               refine norm_ (a' := ?_) ?_ ?_
               rotate_left
               ·show Act.put _ (some 10) _ = _
                simp only [Act.put, zA, zB, zC, i64_w, i32_w]
                rfl
               exact norm_ (by first | (simp only [putAll, Act.put, zA, zB, zC]; done) | (simp only [putAll, Act.put, zA, zB, zC]; rfl)) (hJ1 () _ ⟨(by (with_reducible repeat (first | refine zH ?_ _ | refine zI ?_ | refine zG ?_ _)); exact BK298.out), (by repeat (first | (with_reducible first | exact HB.out | apply zF | apply zD | apply zE | refine zJ ?_ GE298.out) | exact HB.out))⟩)
              ·skip
               refine box_step ?hg (N := 4) ?hd (cs := #[.int .i64 0, .int .i64 0, .int .i64 0, .int .i64 0, .int .i64 0, .int .i64 0, .int .i64 0, .int .i64 0, .int .i64 0]) (t := 48) ?hr ?_; (case hd => rfl); (case hg => rfl); (case hr => first | (go_simp; done) | (go_simp; rfl))
               intro gb304 hg w24 hbox hb
               have n0_ := Aside0.mk (blk_below (g := gb298) (o := .cells #[.int .i64 0, .int .i64 0, .int .i64 0, .int .i64 0, .int .i64 0, .int .i64 0, .int .i64 0, .int .i64 0, .int .i64 0] 48 (0, 0)) (by (with_reducible repeat (first | refine zH ?_ _ | refine zI ?_ | refine zG ?_ _)); exact BK298.out) hb)
               have n1_ := Aside0.mk (zU (by repeat (first | (with_reducible first | exact HB.out | apply zF | apply zD | apply zE | refine zJ ?_ GE298.out) | exact HB.out)) hb)
               have n2_ := Aside0.mk (hbox)
               have n3_ := Aside0.mk ((by rw [hg]; exact (zT (by repeat (first | (with_reducible first | exact HB.out | apply zF | apply zD | apply zE | refine zJ ?_ GE298.out) | exact HB.out))) : w.heap.size ≤ gb304))
               have n4_ := Aside0.mk ((by rw [hg]; exact (zT (by repeat (first | (with_reducible first | exact HB.out | apply zF | apply zD | apply zE | refine zJ ?_ GE298.out) | exact HB.out))) : w.heap.size ≤ gb304))
               have n5_ := Aside0.mk ((by rw [hg]; exact Nat.ne_of_lt (blk_lt (g := gb298) (o := .cells #[.int .i64 0, .int .i64 0, .int .i64 0, .int .i64 0, .int .i64 0, .int .i64 0, .int .i64 0, .int .i64 0, .int .i64 0] 48 (0, 0)) (by (with_reducible repeat (first | refine zH ?_ _ | refine zI ?_ | refine zG ?_ _)); exact BK298.out)) : gb298 ≠ gb304))
               have n6_ := Aside0.mk ((by rw [hg]; exact Nat.ne_of_gt (blk_lt (g := gb298) (o := .cells #[.int .i64 0, .int .i64 0, .int .i64 0, .int .i64 0, .int .i64 0, .int .i64 0, .int .i64 0, .int .i64 0, .int .i64 0] 48 (0, 0)) (by (with_reducible repeat (first | refine zH ?_ _ | refine zI ?_ | refine zG ?_ _)); exact BK298.out)) : gb304 ≠ gb298))
               clear BK298
               clear HB
               have BK298 := n0_
               have HB := n1_
               have BK304 := n2_
               have GW304 := n3_
               have GE304 := n4_
               have NB298_304 := n5_
               have NB304_298 := n6_
               clear n0_ n1_ n2_ n3_ n4_ n5_ n6_
               clear hb hbox hg
               refine hK.out _ _ trivial (fun hHeld => ?_)
               clear hK K
               refine norm_ (a' := ?_) ?_ ?_
               rotate_left
               ·show Act.put _ (some 4) _ = _
                simp only [Act.put, zA, zB, zC, i64_w, i32_w]
                rfl
               exact norm_ (by first | (simp only [putAll, Act.put, zA, zB, zC]; done) | (simp only [putAll, Act.put, zA, zB, zC]; rfl)) (hJ25 (gb304) _ ⟨(by (with_reducible repeat (first | refine zH ?_ _ | refine zI ?_ | refine zG ?_ _)); exact BK298.out), (by (with_reducible repeat (first | refine zH ?_ _ | refine zI ?_ | refine zG ?_ _)); exact BK304.out), GW304.out, GE304.out, NB298_304.out, NB304_298.out, (by repeat (first | (with_reducible first | exact HB.out | apply zF | apply zD | apply zE | refine zJ ?_ GE298.out | refine zJ ?_ GE304.out) | exact HB.out))⟩)
             ·skip
              rintro gb304 w25 ⟨h0_, h1_, h2_, h3_, h4_, h5_, h6_⟩
              have n0_ : Aside0 (w25.heap[gb298]? = some (.cells #[.int .i64 0, .int .i64 0, .int .i64 0, .int .i64 0, .int .i64 0, .int .i64 0, .int .i64 0, .int .i64 0, .int .i64 0] 48 (0, 0))) := ⟨h0_⟩
              have n1_ : Aside0 (w25.heap[gb304]? = some (.cells #[.int .i64 0, .int .i64 0, .int .i64 0, .int .i64 0, .int .i64 0, .int .i64 0, .int .i64 0, .int .i64 0, .int .i64 0] 48 (0, 0))) := ⟨h1_⟩
              have n2_ : Aside0 (w.heap.size ≤ gb304) := ⟨h2_⟩
              have n3_ : Aside0 (w.heap.size ≤ gb304) := ⟨h3_⟩
              have n4_ : Aside0 (gb298 ≠ gb304) := ⟨h4_⟩
              have n5_ : Aside0 (gb304 ≠ gb298) := ⟨h5_⟩
              have n6_ : Aside0 (Below w.heap.size w w25) := ⟨h6_⟩
              clear BK298
              clear HB
              clear h0_ h1_ h2_ h3_ h4_ h5_ h6_
              have BK298 := n0_
              have BK304 := n1_
              have GW304 := n2_
              have GE304 := n3_
              have NB298_304 := n4_
              have NB304_298 := n5_
              have HB := n6_
              clear n0_ n1_ n2_ n3_ n4_ n5_ n6_
              have hHeld := trivial
              refine norm_ (a' := ?_) ?_ ?_
              rotate_left
              ·simp only [putAll, Act.put, zA, zB, zC]
               rfl
              refine one_ (i := 1) (N := some 10) #[true, true, true, false, true, true, true, true, true, false, true, true, true, true, true, true, true, true, true, true, true, false, true, false, false, true, false] rfl rfl (one_of HT_.out (by kernel_rfl)) (by decide) (fun K hK => ?_)
              refine goes_ Try.func50 (by kernel_rfl) rfl #[.string a0, .int .i64 0] (by rfl) rfl rfl (by (try simp only [zO, zP, zQ]); first | done | rfl | (simp only [zS, zR]; rfl)) ?_
              with_reducible refine (ref23_number.calls a0 0 t299 _ A3.out).mono ?_
              rintro e w' ⟨rfl, ⟨nd, rfl⟩⟩
              refine ⟨_, rfl, ?_⟩
              refine hK.out _ _ trivial (fun hHeld => ?_)
              clear hK K
              refine norm_ (a' := ?_) ?_ ?_
              rotate_left
              ·show Act.put _ (some 10) _ = _
               simp only [Act.put, zA, zB, zC, i64_w, i32_w]
               rfl
              exact norm_ (by first | (simp only [putAll, Act.put, zA, zB, zC]; done) | (simp only [putAll, Act.put, zA, zB, zC]; rfl)) (hJ1_25 (gb304) _ ⟨(by (with_reducible repeat (first | refine zH ?_ _ | refine zI ?_ | refine zG ?_ _)); exact BK298.out), (by (with_reducible repeat (first | refine zH ?_ _ | refine zI ?_ | refine zG ?_ _)); exact BK304.out), GW304.out, GE304.out, NB298_304.out, NB304_298.out, (by repeat (first | (with_reducible first | exact HB.out | apply zF | apply zD | apply zE | refine zJ ?_ GE298.out | refine zJ ?_ GE304.out) | exact HB.out))⟩)
            ·skip
             rintro _ w24 ⟨h0_, h1_⟩
             have n0_ : Aside0 (w24.heap[gb298]? = some (.cells #[.int .i64 0, .int .i64 0, .int .i64 0, .int .i64 0, .int .i64 0, .int .i64 0, .int .i64 0, .int .i64 0, .int .i64 0] 48 (0, 0))) := ⟨h0_⟩
             have n1_ : Aside0 (Below w.heap.size w w24) := ⟨h1_⟩
             clear BK298
             clear HB
             clear h0_ h1_
             have BK298 := n0_
             have HB := n1_
             clear n0_ n1_
             have hHeld := trivial
             refine norm_ (a' := ?_) ?_ ?_
             rotate_left
             ·simp only [putAll, Act.put, zA, zB, zC]
              rfl
             refine two_ (i := 3) (j := 25) (Ni := some 12) (Nj := some 4) #[true, true, true, true, true, true, true, true, true, false, true, true, true, true, true, true, true, true, true, true, true, false, true, false, false, false, false] #[true, true, true, false, true, true, true, true, true, false, true, true, true, true, true, true, true, true, true, true, true, false, true, false, false, true, false] rfl rfl rfl rfl (two_of HT_.out (by kernel_rfl)) (by decide) (by decide) (fun K hK => ?_) (fun K hK => ?_)
             ·skip
              refine goes_ Try.func50 (by kernel_rfl) rfl #[.string a0, .int .i64 6] (by rfl) rfl rfl (by (try simp only [zO, zP, zQ]); first | done | rfl | (simp only [zS, zR]; rfl)) ?_
              with_reducible refine (ref23_number.calls a0 6 t300 _ A4.out).mono ?_
              rintro e w' ⟨rfl, ⟨nd, rfl⟩⟩
              refine ⟨_, rfl, ?_⟩
              refine hK.out _ _ trivial (fun hHeld => ?_)
              clear hK K
              refine norm_ (a' := ?_) ?_ ?_
              rotate_left
              ·show Act.put _ (some 12) _ = _
               simp only [Act.put, zA, zB, zC, i64_w, i32_w]
               rfl
              exact norm_ (by first | (simp only [putAll, Act.put, zA, zB, zC]; done) | (simp only [putAll, Act.put, zA, zB, zC]; rfl)) (hJ1_3 () _ ⟨(by (with_reducible repeat (first | refine zH ?_ _ | refine zI ?_ | refine zG ?_ _)); exact BK298.out), (by repeat (first | (with_reducible first | exact HB.out | apply zF | apply zD | apply zE | refine zJ ?_ GE298.out) | exact HB.out))⟩)
             ·skip
              refine box_step ?hg (N := 4) ?hd (cs := #[.int .i64 0, .int .i64 0, .int .i64 0, .int .i64 0, .int .i64 0, .int .i64 0, .int .i64 0, .int .i64 0, .int .i64 0]) (t := 48) ?hr ?_; (case hd => rfl); (case hg => rfl); (case hr => first | (go_simp; done) | (go_simp; rfl))
              intro gb304 hg w25 hbox hb
              have n0_ := Aside0.mk (blk_below (g := gb298) (o := .cells #[.int .i64 0, .int .i64 0, .int .i64 0, .int .i64 0, .int .i64 0, .int .i64 0, .int .i64 0, .int .i64 0, .int .i64 0] 48 (0, 0)) (by (with_reducible repeat (first | refine zH ?_ _ | refine zI ?_ | refine zG ?_ _)); exact BK298.out) hb)
              have n1_ := Aside0.mk (zU (by repeat (first | (with_reducible first | exact HB.out | apply zF | apply zD | apply zE | refine zJ ?_ GE298.out) | exact HB.out)) hb)
              have n2_ := Aside0.mk (hbox)
              have n3_ := Aside0.mk ((by rw [hg]; exact (zT (by repeat (first | (with_reducible first | exact HB.out | apply zF | apply zD | apply zE | refine zJ ?_ GE298.out) | exact HB.out))) : w.heap.size ≤ gb304))
              have n4_ := Aside0.mk ((by rw [hg]; exact (zT (by repeat (first | (with_reducible first | exact HB.out | apply zF | apply zD | apply zE | refine zJ ?_ GE298.out) | exact HB.out))) : w.heap.size ≤ gb304))
              have n5_ := Aside0.mk ((by rw [hg]; exact Nat.ne_of_lt (blk_lt (g := gb298) (o := .cells #[.int .i64 0, .int .i64 0, .int .i64 0, .int .i64 0, .int .i64 0, .int .i64 0, .int .i64 0, .int .i64 0, .int .i64 0] 48 (0, 0)) (by (with_reducible repeat (first | refine zH ?_ _ | refine zI ?_ | refine zG ?_ _)); exact BK298.out)) : gb298 ≠ gb304))
              have n6_ := Aside0.mk ((by rw [hg]; exact Nat.ne_of_gt (blk_lt (g := gb298) (o := .cells #[.int .i64 0, .int .i64 0, .int .i64 0, .int .i64 0, .int .i64 0, .int .i64 0, .int .i64 0, .int .i64 0, .int .i64 0] 48 (0, 0)) (by (with_reducible repeat (first | refine zH ?_ _ | refine zI ?_ | refine zG ?_ _)); exact BK298.out)) : gb304 ≠ gb298))
              clear BK298
              clear HB
              have BK298 := n0_
              have HB := n1_
              have BK304 := n2_
              have GW304 := n3_
              have GE304 := n4_
              have NB298_304 := n5_
              have NB304_298 := n6_
              clear n0_ n1_ n2_ n3_ n4_ n5_ n6_
              clear hb hbox hg
              refine hK.out _ _ trivial (fun hHeld => ?_)
              clear hK K
              refine norm_ (a' := ?_) ?_ ?_
              rotate_left
              ·show Act.put _ (some 4) _ = _
               simp only [Act.put, zA, zB, zC, i64_w, i32_w]
               rfl
              exact norm_ (by first | (simp only [putAll, Act.put, zA, zB, zC]; done) | (simp only [putAll, Act.put, zA, zB, zC]; rfl)) (hJ1_25 (gb304) _ ⟨(by (with_reducible repeat (first | refine zH ?_ _ | refine zI ?_ | refine zG ?_ _)); exact BK298.out), (by (with_reducible repeat (first | refine zH ?_ _ | refine zI ?_ | refine zG ?_ _)); exact BK304.out), GW304.out, GE304.out, NB298_304.out, NB304_298.out, (by repeat (first | (with_reducible first | exact HB.out | apply zF | apply zD | apply zE | refine zJ ?_ GE298.out | refine zJ ?_ GE304.out) | exact HB.out))⟩)
           ·skip
            rintro gb304 w25 ⟨h0_, h1_, h2_, h3_, h4_, h5_, h6_⟩
            have n0_ : Aside0 (w25.heap[gb298]? = some (.cells #[.int .i64 0, .int .i64 0, .int .i64 0, .int .i64 0, .int .i64 0, .int .i64 0, .int .i64 0, .int .i64 0, .int .i64 0] 48 (0, 0))) := ⟨h0_⟩
            have n1_ : Aside0 (w25.heap[gb304]? = some (.cells #[.int .i64 0, .int .i64 0, .int .i64 0, .int .i64 0, .int .i64 0, .int .i64 0, .int .i64 0, .int .i64 0, .int .i64 0] 48 (0, 0))) := ⟨h1_⟩
            have n2_ : Aside0 (w.heap.size ≤ gb304) := ⟨h2_⟩
            have n3_ : Aside0 (w.heap.size ≤ gb304) := ⟨h3_⟩
            have n4_ : Aside0 (gb298 ≠ gb304) := ⟨h4_⟩
            have n5_ : Aside0 (gb304 ≠ gb298) := ⟨h5_⟩
            have n6_ : Aside0 (Below w.heap.size w w25) := ⟨h6_⟩
            clear BK298
            clear HB
            clear h0_ h1_ h2_ h3_ h4_ h5_ h6_
            have BK298 := n0_
            have BK304 := n1_
            have GW304 := n2_
            have GE304 := n3_
            have NB298_304 := n4_
            have NB304_298 := n5_
            have HB := n6_
            clear n0_ n1_ n2_ n3_ n4_ n5_ n6_
            have hHeld := trivial
            refine norm_ (a' := ?_) ?_ ?_
            rotate_left
            ·simp only [putAll, Act.put, zA, zB, zC]
             rfl
            refine one_ (i := 3) (N := some 12) #[true, true, true, true, true, true, true, true, true, false, true, true, true, true, true, true, true, true, true, true, true, false, true, false, false, true, false] rfl rfl (one_of HT_.out (by kernel_rfl)) (by decide) (fun K hK => ?_)
            refine goes_ Try.func50 (by kernel_rfl) rfl #[.string a0, .int .i64 6] (by rfl) rfl rfl (by (try simp only [zO, zP, zQ]); first | done | rfl | (simp only [zS, zR]; rfl)) ?_
            with_reducible refine (ref23_number.calls a0 6 t300 _ A4.out).mono ?_
            rintro e w' ⟨rfl, ⟨nd, rfl⟩⟩
            refine ⟨_, rfl, ?_⟩
            refine hK.out _ _ trivial (fun hHeld => ?_)
            clear hK K
            refine norm_ (a' := ?_) ?_ ?_
            rotate_left
            ·show Act.put _ (some 12) _ = _
             simp only [Act.put, zA, zB, zC, i64_w, i32_w]
             rfl
            exact norm_ (by first | (simp only [putAll, Act.put, zA, zB, zC]; done) | (simp only [putAll, Act.put, zA, zB, zC]; rfl)) (hJ1_3_25 (gb304) _ ⟨(by (with_reducible repeat (first | refine zH ?_ _ | refine zI ?_ | refine zG ?_ _)); exact BK298.out), (by (with_reducible repeat (first | refine zH ?_ _ | refine zI ?_ | refine zG ?_ _)); exact BK304.out), GW304.out, GE304.out, NB298_304.out, NB304_298.out, (by repeat (first | (with_reducible first | exact HB.out | apply zF | apply zD | apply zE | refine zJ ?_ GE298.out | refine zJ ?_ GE304.out) | exact HB.out))⟩)
          ·skip
           rintro _ w24 ⟨h0_, h1_⟩
           have n0_ : Aside0 (w24.heap[gb298]? = some (.cells #[.int .i64 0, .int .i64 0, .int .i64 0, .int .i64 0, .int .i64 0, .int .i64 0, .int .i64 0, .int .i64 0, .int .i64 0] 48 (0, 0))) := ⟨h0_⟩
           have n1_ : Aside0 (Below w.heap.size w w24) := ⟨h1_⟩
           clear BK298
           clear HB
           clear h0_ h1_
           have BK298 := n0_
           have HB := n1_
           clear n0_ n1_
           have hHeld := trivial
           refine norm_ (a' := ?_) ?_ ?_
           rotate_left
           ·simp only [putAll, Act.put, zA, zB, zC]
            rfl
           refine two_ (i := 9) (j := 25) (Ni := some 18) (Nj := some 4) #[true, true, true, true, true, true, true, true, true, true, true, true, true, true, true, true, true, true, true, true, true, false, true, false, false, false, false] #[true, true, true, true, true, true, true, true, true, false, true, true, true, true, true, true, true, true, true, true, true, false, true, false, false, true, false] rfl rfl rfl rfl (two_of HT_.out (by kernel_rfl)) (by decide) (by decide) (fun K hK => ?_) (fun K hK => ?_)
           ·skip
            refine goes_ Try.func51 (by kernel_rfl) rfl #[.int .u8 (bt a0 13)] (by rfl) rfl rfl (by (try simp only [zO, zP, zQ]); first | done | rfl | (simp only [zS, zR]; rfl)) ?_
            with_reducible refine (ref23_less.calls (bt a0 13) t301 _ A9.out).mono ?_
            rintro e w' ⟨rfl, ⟨nd, rfl⟩⟩
            refine ⟨_, rfl, ?_⟩
            refine hK.out _ _ trivial (fun hHeld => ?_)
            clear hK K
            refine norm_ (a' := ?_) ?_ ?_
            rotate_left
            ·show Act.put _ (some 18) _ = _
             simp only [Act.put, zA, zB, zC, i64_w, i32_w]
             rfl
            exact norm_ (by first | (simp only [putAll, Act.put, zA, zB, zC]; done) | (simp only [putAll, Act.put, zA, zB, zC]; rfl)) (hJ1_3_9 () _ ⟨(by (with_reducible repeat (first | refine zH ?_ _ | refine zI ?_ | refine zG ?_ _)); exact BK298.out), (by repeat (first | (with_reducible first | exact HB.out | apply zF | apply zD | apply zE | refine zJ ?_ GE298.out) | exact HB.out))⟩)
           ·skip
            refine box_step ?hg (N := 4) ?hd (cs := #[.int .i64 0, .int .i64 0, .int .i64 0, .int .i64 0, .int .i64 0, .int .i64 0, .int .i64 0, .int .i64 0, .int .i64 0]) (t := 48) ?hr ?_; (case hd => rfl); (case hg => rfl); (case hr => first | (go_simp; done) | (go_simp; rfl))
            intro gb304 hg w25 hbox hb
            have n0_ := Aside0.mk (blk_below (g := gb298) (o := .cells #[.int .i64 0, .int .i64 0, .int .i64 0, .int .i64 0, .int .i64 0, .int .i64 0, .int .i64 0, .int .i64 0, .int .i64 0] 48 (0, 0)) (by (with_reducible repeat (first | refine zH ?_ _ | refine zI ?_ | refine zG ?_ _)); exact BK298.out) hb)
            have n1_ := Aside0.mk (zU (by repeat (first | (with_reducible first | exact HB.out | apply zF | apply zD | apply zE | refine zJ ?_ GE298.out) | exact HB.out)) hb)
            have n2_ := Aside0.mk (hbox)
            have n3_ := Aside0.mk ((by rw [hg]; exact (zT (by repeat (first | (with_reducible first | exact HB.out | apply zF | apply zD | apply zE | refine zJ ?_ GE298.out) | exact HB.out))) : w.heap.size ≤ gb304))
            have n4_ := Aside0.mk ((by rw [hg]; exact (zT (by repeat (first | (with_reducible first | exact HB.out | apply zF | apply zD | apply zE | refine zJ ?_ GE298.out) | exact HB.out))) : w.heap.size ≤ gb304))
            have n5_ := Aside0.mk ((by rw [hg]; exact Nat.ne_of_lt (blk_lt (g := gb298) (o := .cells #[.int .i64 0, .int .i64 0, .int .i64 0, .int .i64 0, .int .i64 0, .int .i64 0, .int .i64 0, .int .i64 0, .int .i64 0] 48 (0, 0)) (by (with_reducible repeat (first | refine zH ?_ _ | refine zI ?_ | refine zG ?_ _)); exact BK298.out)) : gb298 ≠ gb304))
            have n6_ := Aside0.mk ((by rw [hg]; exact Nat.ne_of_gt (blk_lt (g := gb298) (o := .cells #[.int .i64 0, .int .i64 0, .int .i64 0, .int .i64 0, .int .i64 0, .int .i64 0, .int .i64 0, .int .i64 0, .int .i64 0] 48 (0, 0)) (by (with_reducible repeat (first | refine zH ?_ _ | refine zI ?_ | refine zG ?_ _)); exact BK298.out)) : gb304 ≠ gb298))
            clear BK298
            clear HB
            have BK298 := n0_
            have HB := n1_
            have BK304 := n2_
            have GW304 := n3_
            have GE304 := n4_
            have NB298_304 := n5_
            have NB304_298 := n6_
            clear n0_ n1_ n2_ n3_ n4_ n5_ n6_
            clear hb hbox hg
            refine hK.out _ _ trivial (fun hHeld => ?_)
            clear hK K
            refine norm_ (a' := ?_) ?_ ?_
            rotate_left
            ·show Act.put _ (some 4) _ = _
             simp only [Act.put, zA, zB, zC, i64_w, i32_w]
             rfl
            exact norm_ (by first | (simp only [putAll, Act.put, zA, zB, zC]; done) | (simp only [putAll, Act.put, zA, zB, zC]; rfl)) (hJ1_3_25 (gb304) _ ⟨(by (with_reducible repeat (first | refine zH ?_ _ | refine zI ?_ | refine zG ?_ _)); exact BK298.out), (by (with_reducible repeat (first | refine zH ?_ _ | refine zI ?_ | refine zG ?_ _)); exact BK304.out), GW304.out, GE304.out, NB298_304.out, NB304_298.out, (by repeat (first | (with_reducible first | exact HB.out | apply zF | apply zD | apply zE | refine zJ ?_ GE298.out | refine zJ ?_ GE304.out) | exact HB.out))⟩)
         ·skip
          rintro gb304 w25 ⟨h0_, h1_, h2_, h3_, h4_, h5_, h6_⟩
          have n0_ : Aside0 (w25.heap[gb298]? = some (.cells #[.int .i64 0, .int .i64 0, .int .i64 0, .int .i64 0, .int .i64 0, .int .i64 0, .int .i64 0, .int .i64 0, .int .i64 0] 48 (0, 0))) := ⟨h0_⟩
          have n1_ : Aside0 (w25.heap[gb304]? = some (.cells #[.int .i64 0, .int .i64 0, .int .i64 0, .int .i64 0, .int .i64 0, .int .i64 0, .int .i64 0, .int .i64 0, .int .i64 0] 48 (0, 0))) := ⟨h1_⟩
          have n2_ : Aside0 (w.heap.size ≤ gb304) := ⟨h2_⟩
          have n3_ : Aside0 (w.heap.size ≤ gb304) := ⟨h3_⟩
          have n4_ : Aside0 (gb298 ≠ gb304) := ⟨h4_⟩
          have n5_ : Aside0 (gb304 ≠ gb298) := ⟨h5_⟩
          have n6_ : Aside0 (Below w.heap.size w w25) := ⟨h6_⟩
          clear BK298
          clear HB
          clear h0_ h1_ h2_ h3_ h4_ h5_ h6_
          have BK298 := n0_
          have BK304 := n1_
          have GW304 := n2_
          have GE304 := n3_
          have NB298_304 := n4_
          have NB304_298 := n5_
          have HB := n6_
          clear n0_ n1_ n2_ n3_ n4_ n5_ n6_
          have hHeld := trivial
          refine norm_ (a' := ?_) ?_ ?_
          rotate_left
          ·simp only [putAll, Act.put, zA, zB, zC]
           rfl
          refine one_ (i := 9) (N := some 18) #[true, true, true, true, true, true, true, true, true, true, true, true, true, true, true, true, true, true, true, true, true, false, true, false, false, true, false] rfl rfl (one_of HT_.out (by kernel_rfl)) (by decide) (fun K hK => ?_)
          refine goes_ Try.func51 (by kernel_rfl) rfl #[.int .u8 (bt a0 13)] (by rfl) rfl rfl (by (try simp only [zO, zP, zQ]); first | done | rfl | (simp only [zS, zR]; rfl)) ?_
          with_reducible refine (ref23_less.calls (bt a0 13) t301 _ A9.out).mono ?_
          rintro e w' ⟨rfl, ⟨nd, rfl⟩⟩
          refine ⟨_, rfl, ?_⟩
          refine hK.out _ _ trivial (fun hHeld => ?_)
          clear hK K
          refine norm_ (a' := ?_) ?_ ?_
          rotate_left
          ·show Act.put _ (some 18) _ = _
           simp only [Act.put, zA, zB, zC, i64_w, i32_w]
           rfl
          exact norm_ (by first | (simp only [putAll, Act.put, zA, zB, zC]; done) | (simp only [putAll, Act.put, zA, zB, zC]; rfl)) (hJ1_3_9_25 (gb304) _ ⟨(by (with_reducible repeat (first | refine zH ?_ _ | refine zI ?_ | refine zG ?_ _)); exact BK298.out), (by (with_reducible repeat (first | refine zH ?_ _ | refine zI ?_ | refine zG ?_ _)); exact BK304.out), GW304.out, GE304.out, NB298_304.out, NB304_298.out, (by repeat (first | (with_reducible first | exact HB.out | apply zF | apply zD | apply zE | refine zJ ?_ GE298.out | refine zJ ?_ GE304.out) | exact HB.out))⟩)
        ·skip
         rintro _ w24 ⟨h0_, h1_⟩
         have n0_ : Aside0 (w24.heap[gb298]? = some (.cells #[.int .i64 0, .int .i64 0, .int .i64 0, .int .i64 0, .int .i64 0, .int .i64 0, .int .i64 0, .int .i64 0, .int .i64 0] 48 (0, 0))) := ⟨h0_⟩
         have n1_ : Aside0 (Below w.heap.size w w24) := ⟨h1_⟩
         clear BK298
         clear HB
         clear h0_ h1_
         have BK298 := n0_
         have HB := n1_
         clear n0_ n1_
         have hHeld := trivial
         refine norm_ (a' := ?_) ?_ ?_
         rotate_left
         ·simp only [putAll, Act.put, zA, zB, zC]
          rfl
         refine two_ (i := 21) (j := 25) (Ni := some 30) (Nj := some 4) #[true, true, true, true, true, true, true, true, true, true, true, true, true, true, true, true, true, true, true, true, true, true, true, false, false, false, false] #[true, true, true, true, true, true, true, true, true, true, true, true, true, true, true, true, true, true, true, true, true, false, true, false, false, true, false] rfl rfl rfl rfl (two_of HT_.out (by kernel_rfl)) (by decide) (by decide) (fun K hK => ?_) (fun K hK => ?_)
         ·skip
          refine goes_ Try.func51 (by kernel_rfl) rfl #[.int .u8 (bt a0 17)] (by rfl) rfl rfl (by (try simp only [zO, zP, zQ]); first | done | rfl | (simp only [zS, zR]; rfl)) ?_
          with_reducible refine (ref23_less.calls (bt a0 17) t302 _ A18.out).mono ?_
          rintro e w' ⟨rfl, ⟨nd, rfl⟩⟩
          refine ⟨_, rfl, ?_⟩
          refine hK.out _ _ trivial (fun hHeld => ?_)
          clear hK K
          refine norm_ (a' := ?_) ?_ ?_
          rotate_left
          ·show Act.put _ (some 30) _ = _
           simp only [Act.put, zA, zB, zC, i64_w, i32_w]
           rfl
          exact norm_ (by first | (simp only [putAll, Act.put, zA, zB, zC]; done) | (simp only [putAll, Act.put, zA, zB, zC]; rfl)) (hJ1_3_9_21 () _ ⟨(by (with_reducible repeat (first | refine zH ?_ _ | refine zI ?_ | refine zG ?_ _)); exact BK298.out), (by repeat (first | (with_reducible first | exact HB.out | apply zF | apply zD | apply zE | refine zJ ?_ GE298.out) | exact HB.out))⟩)
         ·skip
          refine box_step ?hg (N := 4) ?hd (cs := #[.int .i64 0, .int .i64 0, .int .i64 0, .int .i64 0, .int .i64 0, .int .i64 0, .int .i64 0, .int .i64 0, .int .i64 0]) (t := 48) ?hr ?_; (case hd => rfl); (case hg => rfl); (case hr => first | (go_simp; done) | (go_simp; rfl))
          intro gb304 hg w25 hbox hb
          have n0_ := Aside0.mk (blk_below (g := gb298) (o := .cells #[.int .i64 0, .int .i64 0, .int .i64 0, .int .i64 0, .int .i64 0, .int .i64 0, .int .i64 0, .int .i64 0, .int .i64 0] 48 (0, 0)) (by (with_reducible repeat (first | refine zH ?_ _ | refine zI ?_ | refine zG ?_ _)); exact BK298.out) hb)
          have n1_ := Aside0.mk (zU (by repeat (first | (with_reducible first | exact HB.out | apply zF | apply zD | apply zE | refine zJ ?_ GE298.out) | exact HB.out)) hb)
          have n2_ := Aside0.mk (hbox)
          have n3_ := Aside0.mk ((by rw [hg]; exact (zT (by repeat (first | (with_reducible first | exact HB.out | apply zF | apply zD | apply zE | refine zJ ?_ GE298.out) | exact HB.out))) : w.heap.size ≤ gb304))
          have n4_ := Aside0.mk ((by rw [hg]; exact (zT (by repeat (first | (with_reducible first | exact HB.out | apply zF | apply zD | apply zE | refine zJ ?_ GE298.out) | exact HB.out))) : w.heap.size ≤ gb304))
          have n5_ := Aside0.mk ((by rw [hg]; exact Nat.ne_of_lt (blk_lt (g := gb298) (o := .cells #[.int .i64 0, .int .i64 0, .int .i64 0, .int .i64 0, .int .i64 0, .int .i64 0, .int .i64 0, .int .i64 0, .int .i64 0] 48 (0, 0)) (by (with_reducible repeat (first | refine zH ?_ _ | refine zI ?_ | refine zG ?_ _)); exact BK298.out)) : gb298 ≠ gb304))
          have n6_ := Aside0.mk ((by rw [hg]; exact Nat.ne_of_gt (blk_lt (g := gb298) (o := .cells #[.int .i64 0, .int .i64 0, .int .i64 0, .int .i64 0, .int .i64 0, .int .i64 0, .int .i64 0, .int .i64 0, .int .i64 0] 48 (0, 0)) (by (with_reducible repeat (first | refine zH ?_ _ | refine zI ?_ | refine zG ?_ _)); exact BK298.out)) : gb304 ≠ gb298))
          clear BK298
          clear HB
          have BK298 := n0_
          have HB := n1_
          have BK304 := n2_
          have GW304 := n3_
          have GE304 := n4_
          have NB298_304 := n5_
          have NB304_298 := n6_
          clear n0_ n1_ n2_ n3_ n4_ n5_ n6_
          clear hb hbox hg
          refine hK.out _ _ trivial (fun hHeld => ?_)
          clear hK K
          refine norm_ (a' := ?_) ?_ ?_
          rotate_left
          ·show Act.put _ (some 4) _ = _
           simp only [Act.put, zA, zB, zC, i64_w, i32_w]
           rfl
          exact norm_ (by first | (simp only [putAll, Act.put, zA, zB, zC]; done) | (simp only [putAll, Act.put, zA, zB, zC]; rfl)) (hJ1_3_9_25 (gb304) _ ⟨(by (with_reducible repeat (first | refine zH ?_ _ | refine zI ?_ | refine zG ?_ _)); exact BK298.out), (by (with_reducible repeat (first | refine zH ?_ _ | refine zI ?_ | refine zG ?_ _)); exact BK304.out), GW304.out, GE304.out, NB298_304.out, NB304_298.out, (by repeat (first | (with_reducible first | exact HB.out | apply zF | apply zD | apply zE | refine zJ ?_ GE298.out | refine zJ ?_ GE304.out) | exact HB.out))⟩)
       ·skip
        rintro gb304 w25 ⟨h0_, h1_, h2_, h3_, h4_, h5_, h6_⟩
        have n0_ : Aside0 (w25.heap[gb298]? = some (.cells #[.int .i64 0, .int .i64 0, .int .i64 0, .int .i64 0, .int .i64 0, .int .i64 0, .int .i64 0, .int .i64 0, .int .i64 0] 48 (0, 0))) := ⟨h0_⟩
        have n1_ : Aside0 (w25.heap[gb304]? = some (.cells #[.int .i64 0, .int .i64 0, .int .i64 0, .int .i64 0, .int .i64 0, .int .i64 0, .int .i64 0, .int .i64 0, .int .i64 0] 48 (0, 0))) := ⟨h1_⟩
        have n2_ : Aside0 (w.heap.size ≤ gb304) := ⟨h2_⟩
        have n3_ : Aside0 (w.heap.size ≤ gb304) := ⟨h3_⟩
        have n4_ : Aside0 (gb298 ≠ gb304) := ⟨h4_⟩
        have n5_ : Aside0 (gb304 ≠ gb298) := ⟨h5_⟩
        have n6_ : Aside0 (Below w.heap.size w w25) := ⟨h6_⟩
        clear BK298
        clear HB
        clear h0_ h1_ h2_ h3_ h4_ h5_ h6_
        have BK298 := n0_
        have BK304 := n1_
        have GW304 := n2_
        have GE304 := n3_
        have NB298_304 := n4_
        have NB304_298 := n5_
        have HB := n6_
        clear n0_ n1_ n2_ n3_ n4_ n5_ n6_
        have hHeld := trivial
        refine norm_ (a' := ?_) ?_ ?_
        rotate_left
        ·simp only [putAll, Act.put, zA, zB, zC]
         rfl
        refine one_ (i := 21) (N := some 30) #[true, true, true, true, true, true, true, true, true, true, true, true, true, true, true, true, true, true, true, true, true, true, true, false, false, true, false] rfl rfl (one_of HT_.out (by kernel_rfl)) (by decide) (fun K hK => ?_)
        refine goes_ Try.func51 (by kernel_rfl) rfl #[.int .u8 (bt a0 17)] (by rfl) rfl rfl (by (try simp only [zO, zP, zQ]); first | done | rfl | (simp only [zS, zR]; rfl)) ?_
        with_reducible refine (ref23_less.calls (bt a0 17) t302 _ A18.out).mono ?_
        rintro e w' ⟨rfl, ⟨nd, rfl⟩⟩
        refine ⟨_, rfl, ?_⟩
        refine hK.out _ _ trivial (fun hHeld => ?_)
        clear hK K
        refine norm_ (a' := ?_) ?_ ?_
        rotate_left
        ·show Act.put _ (some 30) _ = _
         simp only [Act.put, zA, zB, zC, i64_w, i32_w]
         rfl
        exact norm_ (by first | (simp only [putAll, Act.put, zA, zB, zC]; done) | (simp only [putAll, Act.put, zA, zB, zC]; rfl)) (hJ1_3_9_21_25 (gb304) _ ⟨(by (with_reducible repeat (first | refine zH ?_ _ | refine zI ?_ | refine zG ?_ _)); exact BK298.out), (by (with_reducible repeat (first | refine zH ?_ _ | refine zI ?_ | refine zG ?_ _)); exact BK304.out), GW304.out, GE304.out, NB298_304.out, NB304_298.out, (by repeat (first | (with_reducible first | exact HB.out | apply zF | apply zD | apply zE | refine zJ ?_ GE298.out | refine zJ ?_ GE304.out) | exact HB.out))⟩)
      ·skip
       rintro _ w24 ⟨h0_, h1_⟩
       have n0_ : Aside0 (w24.heap[gb298]? = some (.cells #[.int .i64 0, .int .i64 0, .int .i64 0, .int .i64 0, .int .i64 0, .int .i64 0, .int .i64 0, .int .i64 0, .int .i64 0] 48 (0, 0))) := ⟨h0_⟩
       have n1_ : Aside0 (Below w.heap.size w w24) := ⟨h1_⟩
       clear BK298
       clear HB
       clear h0_ h1_
       have BK298 := n0_
       have HB := n1_
       clear n0_ n1_
       have hHeld := trivial
       refine norm_ (a' := ?_) ?_ ?_
       rotate_left
       ·simp only [putAll, Act.put, zA, zB, zC]
        rfl
       refine two_ (i := 23) (j := 25) (Ni := some 32) (Nj := some 4) #[true, true, true, true, true, true, true, true, true, true, true, true, true, true, true, true, true, true, true, true, true, true, true, true, false, false, false] #[true, true, true, true, true, true, true, true, true, true, true, true, true, true, true, true, true, true, true, true, true, true, true, false, false, true, false] rfl rfl rfl rfl (two_of HT_.out (by kernel_rfl)) (by decide) (by decide) (fun K hK => ?_) (fun K hK => ?_)
       ·skip
        refine goes_ Try.func49 (by kernel_rfl) rfl #[.string a0, .int .i64 18] (by rfl) rfl rfl (by (try simp only [zO, zP, zQ]); first | done | rfl | (simp only [zS, zR]; rfl)) ?_
        with_reducible refine (ref01_At.calls a0 18 t303 _ A19.out).mono ?_
        rintro e w' ⟨rfl, ⟨nd, rfl⟩⟩
        refine ⟨_, rfl, ?_⟩
        refine hK.out _ _ trivial (fun hHeld => ?_)
        clear hK K
        refine norm_ (a' := ?_) ?_ ?_
        rotate_left
        ·show Act.put _ (some 32) _ = _
         simp only [Act.put, zA, zB, zC, i64_w, i32_w]
         rfl
        refine pure_ (i := 24) (N := some 33) (v := ?_) (a' := ?_) #[true, true, true, true, true, true, true, true, true, true, true, true, true, true, true, true, true, true, true, true, true, true, true, true, true, false, false] rfl rfl (any_of HT_.out (by kernel_rfl)) (fun _ _ _ h => h) (Or.inl ⟨by rfl, ?_⟩) ?_ ?_
        rotate_left
        ·intro w'
         go_simp
         with_reducible rfl
        rotate_left
        ·simp only [Act.put, zA, zB, zC, i64_w, i32_w]
         rfl
        exact norm_ (by first | (simp only [putAll, Act.put, zA, zB, zC]; done) | (simp only [putAll, Act.put, zA, zB, zC]; rfl)) (hJ1_3_9_21_23 () _ ⟨(by (with_reducible repeat (first | refine zH ?_ _ | refine zI ?_ | refine zG ?_ _)); exact BK298.out), (by repeat (first | (with_reducible first | exact HB.out | apply zF | apply zD | apply zE | refine zJ ?_ GE298.out) | exact HB.out))⟩)
       ·skip
        refine box_step ?hg (N := 4) ?hd (cs := #[.int .i64 0, .int .i64 0, .int .i64 0, .int .i64 0, .int .i64 0, .int .i64 0, .int .i64 0, .int .i64 0, .int .i64 0]) (t := 48) ?hr ?_; (case hd => rfl); (case hg => rfl); (case hr => first | (go_simp; done) | (go_simp; rfl))
        intro gb304 hg w25 hbox hb
        have n0_ := Aside0.mk (blk_below (g := gb298) (o := .cells #[.int .i64 0, .int .i64 0, .int .i64 0, .int .i64 0, .int .i64 0, .int .i64 0, .int .i64 0, .int .i64 0, .int .i64 0] 48 (0, 0)) (by (with_reducible repeat (first | refine zH ?_ _ | refine zI ?_ | refine zG ?_ _)); exact BK298.out) hb)
        have n1_ := Aside0.mk (zU (by repeat (first | (with_reducible first | exact HB.out | apply zF | apply zD | apply zE | refine zJ ?_ GE298.out) | exact HB.out)) hb)
        have n2_ := Aside0.mk (hbox)
        have n3_ := Aside0.mk ((by rw [hg]; exact (zT (by repeat (first | (with_reducible first | exact HB.out | apply zF | apply zD | apply zE | refine zJ ?_ GE298.out) | exact HB.out))) : w.heap.size ≤ gb304))
        have n4_ := Aside0.mk ((by rw [hg]; exact (zT (by repeat (first | (with_reducible first | exact HB.out | apply zF | apply zD | apply zE | refine zJ ?_ GE298.out) | exact HB.out))) : w.heap.size ≤ gb304))
        have n5_ := Aside0.mk ((by rw [hg]; exact Nat.ne_of_lt (blk_lt (g := gb298) (o := .cells #[.int .i64 0, .int .i64 0, .int .i64 0, .int .i64 0, .int .i64 0, .int .i64 0, .int .i64 0, .int .i64 0, .int .i64 0] 48 (0, 0)) (by (with_reducible repeat (first | refine zH ?_ _ | refine zI ?_ | refine zG ?_ _)); exact BK298.out)) : gb298 ≠ gb304))
        have n6_ := Aside0.mk ((by rw [hg]; exact Nat.ne_of_gt (blk_lt (g := gb298) (o := .cells #[.int .i64 0, .int .i64 0, .int .i64 0, .int .i64 0, .int .i64 0, .int .i64 0, .int .i64 0, .int .i64 0, .int .i64 0] 48 (0, 0)) (by (with_reducible repeat (first | refine zH ?_ _ | refine zI ?_ | refine zG ?_ _)); exact BK298.out)) : gb304 ≠ gb298))
        clear BK298
        clear HB
        have BK298 := n0_
        have HB := n1_
        have BK304 := n2_
        have GW304 := n3_
        have GE304 := n4_
        have NB298_304 := n5_
        have NB304_298 := n6_
        clear n0_ n1_ n2_ n3_ n4_ n5_ n6_
        clear hb hbox hg
        refine hK.out _ _ trivial (fun hHeld => ?_)
        clear hK K
        refine norm_ (a' := ?_) ?_ ?_
        rotate_left
        ·show Act.put _ (some 4) _ = _
         simp only [Act.put, zA, zB, zC, i64_w, i32_w]
         rfl
        exact norm_ (by first | (simp only [putAll, Act.put, zA, zB, zC]; done) | (simp only [putAll, Act.put, zA, zB, zC]; rfl)) (hJ1_3_9_21_25 (gb304) _ ⟨(by (with_reducible repeat (first | refine zH ?_ _ | refine zI ?_ | refine zG ?_ _)); exact BK298.out), (by (with_reducible repeat (first | refine zH ?_ _ | refine zI ?_ | refine zG ?_ _)); exact BK304.out), GW304.out, GE304.out, NB298_304.out, NB304_298.out, (by repeat (first | (with_reducible first | exact HB.out | apply zF | apply zD | apply zE | refine zJ ?_ GE298.out | refine zJ ?_ GE304.out) | exact HB.out))⟩)
     ·skip
      rintro gb304 w25 ⟨h0_, h1_, h2_, h3_, h4_, h5_, h6_⟩
      have n0_ : Aside0 (w25.heap[gb298]? = some (.cells #[.int .i64 0, .int .i64 0, .int .i64 0, .int .i64 0, .int .i64 0, .int .i64 0, .int .i64 0, .int .i64 0, .int .i64 0] 48 (0, 0))) := ⟨h0_⟩
      have n1_ : Aside0 (w25.heap[gb304]? = some (.cells #[.int .i64 0, .int .i64 0, .int .i64 0, .int .i64 0, .int .i64 0, .int .i64 0, .int .i64 0, .int .i64 0, .int .i64 0] 48 (0, 0))) := ⟨h1_⟩
      have n2_ : Aside0 (w.heap.size ≤ gb304) := ⟨h2_⟩
      have n3_ : Aside0 (w.heap.size ≤ gb304) := ⟨h3_⟩
      have n4_ : Aside0 (gb298 ≠ gb304) := ⟨h4_⟩
      have n5_ : Aside0 (gb304 ≠ gb298) := ⟨h5_⟩
      have n6_ : Aside0 (Below w.heap.size w w25) := ⟨h6_⟩
      clear BK298
      clear HB
      clear h0_ h1_ h2_ h3_ h4_ h5_ h6_
      have BK298 := n0_
      have BK304 := n1_
      have GW304 := n2_
      have GE304 := n3_
      have NB298_304 := n4_
      have NB304_298 := n5_
      have HB := n6_
      clear n0_ n1_ n2_ n3_ n4_ n5_ n6_
      have hHeld := trivial
      refine norm_ (a' := ?_) ?_ ?_
      rotate_left
      ·simp only [putAll, Act.put, zA, zB, zC]
       rfl
      refine one_ (i := 23) (N := some 32) #[true, true, true, true, true, true, true, true, true, true, true, true, true, true, true, true, true, true, true, true, true, true, true, true, false, true, false] rfl rfl (one_of HT_.out (by kernel_rfl)) (by decide) (fun K hK => ?_)
      refine goes_ Try.func49 (by kernel_rfl) rfl #[.string a0, .int .i64 18] (by rfl) rfl rfl (by (try simp only [zO, zP, zQ]); first | done | rfl | (simp only [zS, zR]; rfl)) ?_
      with_reducible refine (ref01_At.calls a0 18 t303 _ A19.out).mono ?_
      rintro e w' ⟨rfl, ⟨nd, rfl⟩⟩
      refine ⟨_, rfl, ?_⟩
      refine hK.out _ _ trivial (fun hHeld => ?_)
      clear hK K
      refine norm_ (a' := ?_) ?_ ?_
      rotate_left
      ·show Act.put _ (some 32) _ = _
       simp only [Act.put, zA, zB, zC, i64_w, i32_w]
       rfl
      refine pure_ (i := 24) (N := some 33) (v := ?_) (a' := ?_) #[true, true, true, true, true, true, true, true, true, true, true, true, true, true, true, true, true, true, true, true, true, true, true, true, true, true, false] rfl rfl (any_of HT_.out (by kernel_rfl)) (fun _ _ _ h => h) (Or.inl ⟨by rfl, ?_⟩) ?_ ?_
      rotate_left
      ·intro w'
       go_simp
       with_reducible rfl
      rotate_left
      ·simp only [Act.put, zA, zB, zC, i64_w, i32_w]
       rfl
      exact norm_ (by first | (simp only [putAll, Act.put, zA, zB, zC]; done) | (simp only [putAll, Act.put, zA, zB, zC]; rfl)) (hJ1_3_9_21_23_25 (gb304) _ ⟨(by (with_reducible repeat (first | refine zH ?_ _ | refine zI ?_ | refine zG ?_ _)); exact BK298.out), (by (with_reducible repeat (first | refine zH ?_ _ | refine zI ?_ | refine zG ?_ _)); exact BK304.out), GW304.out, GE304.out, NB298_304.out, NB304_298.out, (by repeat (first | (with_reducible first | exact HB.out | apply zF | apply zD | apply zE | refine zJ ?_ GE298.out | refine zJ ?_ GE304.out) | exact HB.out))⟩)
    ·skip
     rintro _ w24 ⟨h0_, h1_⟩
     have n0_ : Aside0 (w24.heap[gb298]? = some (.cells #[.int .i64 0, .int .i64 0, .int .i64 0, .int .i64 0, .int .i64 0, .int .i64 0, .int .i64 0, .int .i64 0, .int .i64 0] 48 (0, 0))) := ⟨h0_⟩
     have n1_ : Aside0 (Below w.heap.size w w24) := ⟨h1_⟩
     clear BK298
     clear HB
     clear h0_ h1_
     have BK298 := n0_
     have HB := n1_
     clear n0_ n1_
     have hHeld := trivial
     refine norm_ (a' := ?_) ?_ ?_
     rotate_left
     ·simp only [putAll, Act.put, zA, zB, zC]
      rfl
     refine one_ (i := 25) (N := some 4) #[true, true, true, true, true, true, true, true, true, true, true, true, true, true, true, true, true, true, true, true, true, true, true, true, true, true, false] rfl rfl (one_of HT_.out (by kernel_rfl)) (by decide) (fun K hK => ?_)
     refine box_step ?hg (N := 4) ?hd (cs := #[.int .i64 0, .int .i64 0, .int .i64 0, .int .i64 0, .int .i64 0, .int .i64 0, .int .i64 0, .int .i64 0, .int .i64 0]) (t := 48) ?hr ?_; (case hd => rfl); (case hg => rfl); (case hr => first | (go_simp; done) | (go_simp; rfl))
     intro gb304 hg w25 hbox hb
     have n0_ := Aside0.mk (blk_below (g := gb298) (o := .cells #[.int .i64 0, .int .i64 0, .int .i64 0, .int .i64 0, .int .i64 0, .int .i64 0, .int .i64 0, .int .i64 0, .int .i64 0] 48 (0, 0)) (by (with_reducible repeat (first | refine zH ?_ _ | refine zI ?_ | refine zG ?_ _)); exact BK298.out) hb)
     have n1_ := Aside0.mk (zU (by repeat (first | (with_reducible first | exact HB.out | apply zF | apply zD | apply zE | refine zJ ?_ GE298.out) | exact HB.out)) hb)
     have n2_ := Aside0.mk (hbox)
     have n3_ := Aside0.mk ((by rw [hg]; exact (zT (by repeat (first | (with_reducible first | exact HB.out | apply zF | apply zD | apply zE | refine zJ ?_ GE298.out) | exact HB.out))) : w.heap.size ≤ gb304))
     have n4_ := Aside0.mk ((by rw [hg]; exact (zT (by repeat (first | (with_reducible first | exact HB.out | apply zF | apply zD | apply zE | refine zJ ?_ GE298.out) | exact HB.out))) : w.heap.size ≤ gb304))
     have n5_ := Aside0.mk ((by rw [hg]; exact Nat.ne_of_lt (blk_lt (g := gb298) (o := .cells #[.int .i64 0, .int .i64 0, .int .i64 0, .int .i64 0, .int .i64 0, .int .i64 0, .int .i64 0, .int .i64 0, .int .i64 0] 48 (0, 0)) (by (with_reducible repeat (first | refine zH ?_ _ | refine zI ?_ | refine zG ?_ _)); exact BK298.out)) : gb298 ≠ gb304))
     have n6_ := Aside0.mk ((by rw [hg]; exact Nat.ne_of_gt (blk_lt (g := gb298) (o := .cells #[.int .i64 0, .int .i64 0, .int .i64 0, .int .i64 0, .int .i64 0, .int .i64 0, .int .i64 0, .int .i64 0, .int .i64 0] 48 (0, 0)) (by (with_reducible repeat (first | refine zH ?_ _ | refine zI ?_ | refine zG ?_ _)); exact BK298.out)) : gb304 ≠ gb298))
     clear BK298
     clear HB
     have BK298 := n0_
     have HB := n1_
     have BK304 := n2_
     have GW304 := n3_
     have GE304 := n4_
     have NB298_304 := n5_
     have NB304_298 := n6_
     clear n0_ n1_ n2_ n3_ n4_ n5_ n6_
     clear hb hbox hg
     refine hK.out _ _ trivial (fun hHeld => ?_)
     clear hK K
     refine norm_ (a' := ?_) ?_ ?_
     rotate_left
     ·show Act.put _ (some 4) _ = _
      simp only [Act.put, zA, zB, zC, i64_w, i32_w]
      rfl
     exact norm_ (by first | (simp only [putAll, Act.put, zA, zB, zC]; done) | (simp only [putAll, Act.put, zA, zB, zC]; rfl)) (hJ1_3_9_21_23_25 (gb304) _ ⟨(by (with_reducible repeat (first | refine zH ?_ _ | refine zI ?_ | refine zG ?_ _)); exact BK298.out), (by (with_reducible repeat (first | refine zH ?_ _ | refine zI ?_ | refine zG ?_ _)); exact BK304.out), GW304.out, GE304.out, NB298_304.out, NB304_298.out, (by repeat (first | (with_reducible first | exact HB.out | apply zF | apply zD | apply zE | refine zJ ?_ GE298.out | refine zJ ?_ GE304.out) | exact HB.out))⟩)
   rintro gb304 w25 ⟨h0_, h1_, h2_, h3_, h4_, h5_, h6_⟩
   have n0_ : Aside0 (w25.heap[gb298]? = some (.cells #[.int .i64 0, .int .i64 0, .int .i64 0, .int .i64 0, .int .i64 0, .int .i64 0, .int .i64 0, .int .i64 0, .int .i64 0] 48 (0, 0))) := ⟨h0_⟩
   have n1_ : Aside0 (w25.heap[gb304]? = some (.cells #[.int .i64 0, .int .i64 0, .int .i64 0, .int .i64 0, .int .i64 0, .int .i64 0, .int .i64 0, .int .i64 0, .int .i64 0] 48 (0, 0))) := ⟨h1_⟩
   have n2_ : Aside0 (w.heap.size ≤ gb304) := ⟨h2_⟩
   have n3_ : Aside0 (w.heap.size ≤ gb304) := ⟨h3_⟩
   have n4_ : Aside0 (gb298 ≠ gb304) := ⟨h4_⟩
   have n5_ : Aside0 (gb304 ≠ gb298) := ⟨h5_⟩
   have n6_ : Aside0 (Below w.heap.size w w25) := ⟨h6_⟩
   clear BK298
   clear HB
   clear h0_ h1_ h2_ h3_ h4_ h5_ h6_
   have BK298 := n0_
   have BK304 := n1_
   have GW304 := n2_
   have GE304 := n3_
   have NB298_304 := n4_
   have NB304_298 := n5_
   have HB := n6_
   clear n0_ n1_ n2_ n3_ n4_ n5_ n6_
   have hHeld := trivial
   refine norm_ (a' := ?_) ?_ ?_
   rotate_left
   ·simp only [putAll, Act.put, zA, zB, zC]
    rfl
   refine one_ (i := 26) (N := none) #[true, true, true, true, true, true, true, true, true, true, true, true, true, true, true, true, true, true, true, true, true, true, true, true, true, true, true] rfl rfl (one_of HT_.out (by kernel_rfl)) (by decide) (fun K hK => ?_)
   have hs26 : w25.cell? ⟨gb304, 0, none⟩ = some (.int .i64 0) := (zK BK304.out 0).trans rfl
   have hfs26 := zL BK304.out 0
   have hns26_0 := NB298_304.out
   have hms26_0 := NB304_298.out
   have hs27 : w25.cell? ⟨gb304, 1, none⟩ = some (.int .i64 0) := (zK BK304.out 1).trans rfl
   have hfs27 := zL BK304.out 1
   have hns27_0 := NB298_304.out
   have hms27_0 := NB304_298.out
   have hs28 : w25.cell? ⟨gb304, 2, none⟩ = some (.int .i64 0) := (zK BK304.out 2).trans rfl
   have hfs28 := zL BK304.out 2
   have hns28_0 := NB298_304.out
   have hms28_0 := NB304_298.out
   have hs29 : w25.cell? ⟨gb304, 3, none⟩ = some (.int .i64 0) := (zK BK304.out 3).trans rfl
   have hfs29 := zL BK304.out 3
   have hns29_0 := NB298_304.out
   have hms29_0 := NB304_298.out
   have hs30 : w25.cell? ⟨gb304, 4, none⟩ = some (.int .i64 0) := (zK BK304.out 4).trans rfl
   have hfs30 := zL BK304.out 4
   have hns30_0 := NB298_304.out
   have hms30_0 := NB304_298.out
   have hs31 : w25.cell? ⟨gb304, 5, none⟩ = some (.int .i64 0) := (zK BK304.out 5).trans rfl
   have hfs31 := zL BK304.out 5
   have hns31_0 := NB298_304.out
   have hms31_0 := NB304_298.out
   have hs32 : w25.cell? ⟨gb304, 6, none⟩ = some (.int .i64 0) := (zK BK304.out 6).trans rfl
   have hfs32 := zL BK304.out 6
   have hns32_0 := NB298_304.out
   have hms32_0 := NB304_298.out
   have hs33 : w25.cell? ⟨gb304, 7, none⟩ = some (.int .i64 0) := (zK BK304.out 7).trans rfl
   have hfs33 := zL BK304.out 7
   have hns33_0 := NB298_304.out
   have hms33_0 := NB304_298.out
   have hs34 : w25.cell? ⟨gb304, 8, none⟩ = some (.int .i64 0) := (zK BK304.out 8).trans rfl
   have hfs34 := zL BK304.out 8
   have hns34_0 := NB298_304.out
   have hms34_0 := NB304_298.out
   refine skip_ (w1 := ?_) (by rfl) rfl ?_ ?_
   rotate_left
   ·go_simp
    rfl
   refine hK.out _ _ trivial (fun hHeld => ?_)
   clear hK K
   refine done_ (done_of HT_.out (by kernel_rfl)) ?_
   have hnb35 := NB304_298.out
   have hnc35 := NB298_304.out
   have hcz36_0 : w25.cell? ⟨gb304, 0, none⟩ = some (.int .i64 0) := (zK BK304.out 0).trans rfl
   have hcz36_1 : w25.cell? ⟨gb304, 1, none⟩ = some (.int .i64 0) := (zK BK304.out 1).trans rfl
   have hcz36_2 : w25.cell? ⟨gb304, 2, none⟩ = some (.int .i64 0) := (zK BK304.out 2).trans rfl
   have hcz36_3 : w25.cell? ⟨gb304, 3, none⟩ = some (.int .i64 0) := (zK BK304.out 3).trans rfl
   have hcz36_4 : w25.cell? ⟨gb304, 4, none⟩ = some (.int .i64 0) := (zK BK304.out 4).trans rfl
   have hcz36_5 : w25.cell? ⟨gb304, 5, none⟩ = some (.int .i64 0) := (zK BK304.out 5).trans rfl
   have hcz36_6 : w25.cell? ⟨gb304, 6, none⟩ = some (.int .i64 0) := (zK BK304.out 6).trans rfl
   have hcz36_7 : w25.cell? ⟨gb304, 7, none⟩ = some (.int .i64 0) := (zK BK304.out 7).trans rfl
   have hcz36_8 : w25.cell? ⟨gb304, 8, none⟩ = some (.int .i64 0) := (zK BK304.out 8).trans rfl
   have hfz36_0 := zL BK304.out 0
   have hfz36_1 := zL BK304.out 1
   have hfz36_2 := zL BK304.out 2
   have hfz36_3 := zL BK304.out 3
   have hfz36_4 := zL BK304.out 4
   have hfz36_5 := zL BK304.out 5
   have hfz36_6 := zL BK304.out 6
   have hfz36_7 := zL BK304.out 7
   have hfz36_8 := zL BK304.out 8
   try go_wp2_with (first | ((with_reducible refine gate_callee (f := 31) rfl ?_); refine goesL_ (some 35) rfl rfl Try.func31 (by kernel_rfl) rfl #[.agg #[.int .i64 t299, .int .i64 t300, .int .i64 (wrap64 (bt a0 12)), .int .i64 t301, .int .i64 (wrap64 (bt a0 14)), .int .i64 (wrap64 (bt a0 15)), .int .i64 (wrap64 (bt a0 16)), .int .i64 t302, .int .i64 t303]] rfl (by (try simp only [zO, zP, zQ]); first | done | rfl | (simp only [zS, zR]; rfl)) ?_; (with_reducible refine (ref23_Right.calls t299 t300 (wrap64 (bt a0 12)) t301 (wrap64 (bt a0 14)) (wrap64 (bt a0 15)) (wrap64 (bt a0 16)) t302 t303 true _ A20.out).mono ?_); rintro e w37 ⟨rfl, hb⟩; refine ⟨_, rfl, ?_⟩; have n0_ := Aside0.mk (blk_below (g := gb298) (o := .cells #[.int .i64 0, .int .i64 0, .int .i64 0, .int .i64 0, .int .i64 0, .int .i64 0, .int .i64 0, .int .i64 0, .int .i64 0] 48 (0, 0)) (by (with_reducible repeat (first | refine zH ?_ _ | refine zI ?_ | refine zG ?_ _)); refine blk_far ?_ NB298_304.out _; (with_reducible repeat (first | refine zH ?_ _ | refine zI ?_ | refine zG ?_ _)); refine blk_far ?_ NB298_304.out _; (with_reducible repeat (first | refine zH ?_ _ | refine zI ?_ | refine zG ?_ _)); refine blk_far ?_ NB298_304.out _; (with_reducible repeat (first | refine zH ?_ _ | refine zI ?_ | refine zG ?_ _)); refine blk_far ?_ NB298_304.out _; (with_reducible repeat (first | refine zH ?_ _ | refine zI ?_ | refine zG ?_ _)); refine blk_far ?_ NB298_304.out _; (with_reducible repeat (first | refine zH ?_ _ | refine zI ?_ | refine zG ?_ _)); refine blk_far ?_ NB298_304.out _; (with_reducible repeat (first | refine zH ?_ _ | refine zI ?_ | refine zG ?_ _)); refine blk_far ?_ NB298_304.out _; (with_reducible repeat (first | refine zH ?_ _ | refine zI ?_ | refine zG ?_ _)); refine blk_far ?_ NB298_304.out _; (with_reducible repeat (first | refine zH ?_ _ | refine zI ?_ | refine zG ?_ _)); refine blk_far ?_ NB298_304.out _; (with_reducible repeat (first | refine zH ?_ _ | refine zI ?_ | refine zG ?_ _)); exact BK298.out) hb); have n1_ := Aside0.mk (blk_below (g := gb304) (o := .cells #[.int .i64 t299, .int .i64 t300, .int .i64 (wrap64 (bt a0 12)), .int .i64 t301, .int .i64 (wrap64 (bt a0 14)), .int .i64 (wrap64 (bt a0 15)), .int .i64 (wrap64 (bt a0 16)), .int .i64 t302, .int .i64 t303] 48 (0, 0)) (by (with_reducible repeat (first | refine zH ?_ _ | refine zI ?_ | refine zG ?_ _)); refine blk_put (cs := #[.int .i64 t299, .int .i64 t300, .int .i64 (wrap64 (bt a0 12)), .int .i64 t301, .int .i64 (wrap64 (bt a0 14)), .int .i64 (wrap64 (bt a0 15)), .int .i64 (wrap64 (bt a0 16)), .int .i64 t302, .int .i64 0]) ?_ 8 _ rfl; (with_reducible repeat (first | refine zH ?_ _ | refine zI ?_ | refine zG ?_ _)); refine blk_put (cs := #[.int .i64 t299, .int .i64 t300, .int .i64 (wrap64 (bt a0 12)), .int .i64 t301, .int .i64 (wrap64 (bt a0 14)), .int .i64 (wrap64 (bt a0 15)), .int .i64 (wrap64 (bt a0 16)), .int .i64 0, .int .i64 0]) ?_ 7 _ rfl; (with_reducible repeat (first | refine zH ?_ _ | refine zI ?_ | refine zG ?_ _)); refine blk_put (cs := #[.int .i64 t299, .int .i64 t300, .int .i64 (wrap64 (bt a0 12)), .int .i64 t301, .int .i64 (wrap64 (bt a0 14)), .int .i64 (wrap64 (bt a0 15)), .int .i64 0, .int .i64 0, .int .i64 0]) ?_ 6 _ rfl; (with_reducible repeat (first | refine zH ?_ _ | refine zI ?_ | refine zG ?_ _)); refine blk_put (cs := #[.int .i64 t299, .int .i64 t300, .int .i64 (wrap64 (bt a0 12)), .int .i64 t301, .int .i64 (wrap64 (bt a0 14)), .int .i64 0, .int .i64 0, .int .i64 0, .int .i64 0]) ?_ 5 _ rfl; (with_reducible repeat (first | refine zH ?_ _ | refine zI ?_ | refine zG ?_ _)); refine blk_put (cs := #[.int .i64 t299, .int .i64 t300, .int .i64 (wrap64 (bt a0 12)), .int .i64 t301, .int .i64 0, .int .i64 0, .int .i64 0, .int .i64 0, .int .i64 0]) ?_ 4 _ rfl; (with_reducible repeat (first | refine zH ?_ _ | refine zI ?_ | refine zG ?_ _)); refine blk_put (cs := #[.int .i64 t299, .int .i64 t300, .int .i64 (wrap64 (bt a0 12)), .int .i64 0, .int .i64 0, .int .i64 0, .int .i64 0, .int .i64 0, .int .i64 0]) ?_ 3 _ rfl; (with_reducible repeat (first | refine zH ?_ _ | refine zI ?_ | refine zG ?_ _)); refine blk_put (cs := #[.int .i64 t299, .int .i64 t300, .int .i64 0, .int .i64 0, .int .i64 0, .int .i64 0, .int .i64 0, .int .i64 0, .int .i64 0]) ?_ 2 _ rfl; (with_reducible repeat (first | refine zH ?_ _ | refine zI ?_ | refine zG ?_ _)); refine blk_put (cs := #[.int .i64 t299, .int .i64 0, .int .i64 0, .int .i64 0, .int .i64 0, .int .i64 0, .int .i64 0, .int .i64 0, .int .i64 0]) ?_ 1 _ rfl; (with_reducible repeat (first | refine zH ?_ _ | refine zI ?_ | refine zG ?_ _)); refine blk_put (cs := #[.int .i64 0, .int .i64 0, .int .i64 0, .int .i64 0, .int .i64 0, .int .i64 0, .int .i64 0, .int .i64 0, .int .i64 0]) ?_ 0 _ rfl; (with_reducible repeat (first | refine zH ?_ _ | refine zI ?_ | refine zG ?_ _)); exact BK304.out) hb); have n2_ := Aside0.mk (zU (by repeat (first | (with_reducible first | exact HB.out | apply zF | apply zD | apply zE | refine zJ ?_ GE298.out | refine zJ ?_ GE304.out) | exact HB.out)) hb); clear BK298; clear BK304; clear HB; have BK298 := n0_; have BK304 := n1_; have HB := n2_; clear n0_ n1_ n2_; (try clear hb); (try clear hb2); (try clear hk); (try clear hi); have hcz38_0 : w37.cell? ⟨gb304, 0, none⟩ = some (.int .i64 t299) := (zK BK304.out 0).trans rfl; have hcz38_1 : w37.cell? ⟨gb304, 1, none⟩ = some (.int .i64 t300) := (zK BK304.out 1).trans rfl; have hcz38_2 : w37.cell? ⟨gb304, 2, none⟩ = some (.int .i64 (wrap64 (bt a0 12))) := (zK BK304.out 2).trans rfl; have hcz38_3 : w37.cell? ⟨gb304, 3, none⟩ = some (.int .i64 t301) := (zK BK304.out 3).trans rfl; have hcz38_4 : w37.cell? ⟨gb304, 4, none⟩ = some (.int .i64 (wrap64 (bt a0 14))) := (zK BK304.out 4).trans rfl; have hcz38_5 : w37.cell? ⟨gb304, 5, none⟩ = some (.int .i64 (wrap64 (bt a0 15))) := (zK BK304.out 5).trans rfl; have hcz38_6 : w37.cell? ⟨gb304, 6, none⟩ = some (.int .i64 (wrap64 (bt a0 16))) := (zK BK304.out 6).trans rfl; have hcz38_7 : w37.cell? ⟨gb304, 7, none⟩ = some (.int .i64 t302) := (zK BK304.out 7).trans rfl; have hcz38_8 : w37.cell? ⟨gb304, 8, none⟩ = some (.int .i64 t303) := (zK BK304.out 8).trans rfl; have hfz38_0 := zL BK304.out 0; have hfz38_1 := zL BK304.out 1; have hfz38_2 := zL BK304.out 2; have hfz38_3 := zL BK304.out 3; have hfz38_4 := zL BK304.out 4; have hfz38_5 := zL BK304.out 5; have hfz38_6 := zL BK304.out 6; have hfz38_7 := zL BK304.out 7; have hfz38_8 := zL BK304.out 8; have hcz39_0 : w37.cell? ⟨gb298, 0, none⟩ = some (.int .i64 0) := (zK BK298.out 0).trans rfl; have hcz39_1 : w37.cell? ⟨gb298, 1, none⟩ = some (.int .i64 0) := (zK BK298.out 1).trans rfl; have hcz39_2 : w37.cell? ⟨gb298, 2, none⟩ = some (.int .i64 0) := (zK BK298.out 2).trans rfl; have hcz39_3 : w37.cell? ⟨gb298, 3, none⟩ = some (.int .i64 0) := (zK BK298.out 3).trans rfl; have hcz39_4 : w37.cell? ⟨gb298, 4, none⟩ = some (.int .i64 0) := (zK BK298.out 4).trans rfl; have hcz39_5 : w37.cell? ⟨gb298, 5, none⟩ = some (.int .i64 0) := (zK BK298.out 5).trans rfl; have hcz39_6 : w37.cell? ⟨gb298, 6, none⟩ = some (.int .i64 0) := (zK BK298.out 6).trans rfl; have hcz39_7 : w37.cell? ⟨gb298, 7, none⟩ = some (.int .i64 0) := (zK BK298.out 7).trans rfl; have hcz39_8 : w37.cell? ⟨gb298, 8, none⟩ = some (.int .i64 0) := (zK BK298.out 8).trans rfl; have hfz39_0 := zL BK298.out 0; have hfz39_1 := zL BK298.out 1; have hfz39_2 := zL BK298.out 2; have hfz39_3 := zL BK298.out 3; have hfz39_4 := zL BK298.out 4; have hfz39_5 := zL BK298.out 5; have hfz39_6 := zL BK298.out 6; have hfz39_7 := zL BK298.out 7; have hfz39_8 := zL BK298.out 8))
   refine bodyPost_ret (results_ct rfl _ _ gb298 48 #[.int .i64 t299, .int .i64 t300, .int .i64 (wrap64 (bt a0 12)), .int .i64 t301, .int .i64 (wrap64 (bt a0 14)), .int .i64 (wrap64 (bt a0 15)), .int .i64 (wrap64 (bt a0 16)), .int .i64 t302, .int .i64 t303] (0, 0) _ rfl (by (with_reducible repeat (first | refine zH ?_ _ | refine zI ?_ | refine zG ?_ _)); refine blk_put (cs := #[.int .i64 t299, .int .i64 t300, .int .i64 (wrap64 (bt a0 12)), .int .i64 t301, .int .i64 (wrap64 (bt a0 14)), .int .i64 (wrap64 (bt a0 15)), .int .i64 (wrap64 (bt a0 16)), .int .i64 t302, .int .i64 0]) ?_ 8 _ rfl; (with_reducible repeat (first | refine zH ?_ _ | refine zI ?_ | refine zG ?_ _)); refine blk_put (cs := #[.int .i64 t299, .int .i64 t300, .int .i64 (wrap64 (bt a0 12)), .int .i64 t301, .int .i64 (wrap64 (bt a0 14)), .int .i64 (wrap64 (bt a0 15)), .int .i64 (wrap64 (bt a0 16)), .int .i64 0, .int .i64 0]) ?_ 7 _ rfl; (with_reducible repeat (first | refine zH ?_ _ | refine zI ?_ | refine zG ?_ _)); refine blk_put (cs := #[.int .i64 t299, .int .i64 t300, .int .i64 (wrap64 (bt a0 12)), .int .i64 t301, .int .i64 (wrap64 (bt a0 14)), .int .i64 (wrap64 (bt a0 15)), .int .i64 0, .int .i64 0, .int .i64 0]) ?_ 6 _ rfl; (with_reducible repeat (first | refine zH ?_ _ | refine zI ?_ | refine zG ?_ _)); refine blk_put (cs := #[.int .i64 t299, .int .i64 t300, .int .i64 (wrap64 (bt a0 12)), .int .i64 t301, .int .i64 (wrap64 (bt a0 14)), .int .i64 0, .int .i64 0, .int .i64 0, .int .i64 0]) ?_ 5 _ rfl; (with_reducible repeat (first | refine zH ?_ _ | refine zI ?_ | refine zG ?_ _)); refine blk_put (cs := #[.int .i64 t299, .int .i64 t300, .int .i64 (wrap64 (bt a0 12)), .int .i64 t301, .int .i64 0, .int .i64 0, .int .i64 0, .int .i64 0, .int .i64 0]) ?_ 4 _ rfl; (with_reducible repeat (first | refine zH ?_ _ | refine zI ?_ | refine zG ?_ _)); refine blk_put (cs := #[.int .i64 t299, .int .i64 t300, .int .i64 (wrap64 (bt a0 12)), .int .i64 0, .int .i64 0, .int .i64 0, .int .i64 0, .int .i64 0, .int .i64 0]) ?_ 3 _ rfl; (with_reducible repeat (first | refine zH ?_ _ | refine zI ?_ | refine zG ?_ _)); refine blk_put (cs := #[.int .i64 t299, .int .i64 t300, .int .i64 0, .int .i64 0, .int .i64 0, .int .i64 0, .int .i64 0, .int .i64 0, .int .i64 0]) ?_ 2 _ rfl; (with_reducible repeat (first | refine zH ?_ _ | refine zI ?_ | refine zG ?_ _)); refine blk_put (cs := #[.int .i64 t299, .int .i64 0, .int .i64 0, .int .i64 0, .int .i64 0, .int .i64 0, .int .i64 0, .int .i64 0, .int .i64 0]) ?_ 1 _ rfl; (with_reducible repeat (first | refine zH ?_ _ | refine zI ?_ | refine zG ?_ _)); refine blk_put (cs := #[.int .i64 0, .int .i64 0, .int .i64 0, .int .i64 0, .int .i64 0, .int .i64 0, .int .i64 0, .int .i64 0, .int .i64 0]) ?_ 0 _ rfl; (with_reducible repeat (first | refine zH ?_ _ | refine zI ?_ | refine zG ?_ _)); exact BK298.out) Try.underlying48 rfl (by kernel_rfl)) rfl ?_
   exact ⟨by first | rfl | (simp [errW_none, errW_some] <;> rfl) | (simp [*, errW_none, errW_some] <;> rfl), by repeat (first | (with_reducible first | exact HB.out | apply zF | apply zD | apply zE | refine zJ ?_ GE298.out | refine zJ ?_ GE304.out) | exact HB.out)⟩
  ·replace c21 := Bool.eq_false_iff.mpr c21
   subst c21
   have H1 : (some (0, 0, 0, 0, 0, 0, 0, 0, 0, false)) = some (r1, r2, r3, r4, r5, r6, r7, r8, r9, r10) := by rw [if_neg (show ¬ (false = true) by decide)] at H; exact H
   clear H
   have H := H1
   clear H1
   simp only [Option.some.injEq, Prod.mk.injEq] at H
   obtain ⟨rfl, rfl, rfl, rfl, rfl, rfl, rfl, rfl, rfl, rfl⟩ := H
   go_enter Try.func42, Try.ntmps42
   try go_wp2_with (first | ((with_reducible refine gate_dst (N := 2) rfl ?_); refine box_event ?hg (N := 2) ?hd (cs := #[.int .i64 0, .int .i64 0, .int .i64 0, .int .i64 0, .int .i64 0, .int .i64 0, .int .i64 0, .int .i64 0, .int .i64 0]) (t := 48) ?hr ?_; (case hd => rfl); (case hg => rfl); (case hr => first | (go_simp; done) | (go_simp; rfl)); intro gb298 hg w40 hbox hb; have n0_ := Aside0.mk (zU (by repeat (first | (with_reducible first | exact HB.out | apply zF | apply zD | apply zE) | exact HB.out)) hb); have n1_ := Aside0.mk (hbox); have n2_ := Aside0.mk ((by rw [hg]; exact (zT (by repeat (first | (with_reducible first | exact HB.out | apply zF | apply zD | apply zE) | exact HB.out))) : w.heap.size ≤ gb298)); have n3_ := Aside0.mk ((by rw [hg]; exact (zT (by repeat (first | (with_reducible first | exact HB.out | apply zF | apply zD | apply zE) | exact HB.out))) : w.heap.size ≤ gb298)); clear HB; have HB := n0_; have BK298 := n1_; have GW298 := n2_; have GE298 := n3_; clear n0_ n1_ n2_ n3_; clear hb hbox hg))
   have n0_ := Aside0.mk (zI BK298.out)
   have n1_ := Aside0.mk (zE HB.out)
   clear BK298
   clear HB
   have BK298 := n0_
   have HB := n1_
   clear n0_ n1_
   have p6 : 0 ≤ (12 : Int) := (by omega)
   have q6 : 12 < a0.size := (by have : (12 : Int) < (a0.size : Int) := zV (by first | (with_reducible assumption) | assumption); omega)
   have hx6 : ∀ h : 12 < a0.size, ((a0[12]'h).toNat : Int) = bt a0 12 := bt_at a0 12
   clear p6
   have qi6 : (12 < (a0.size : Int)) = True := eq_true (zV (by first | (with_reducible assumption) | assumption))
   replace q6 := eq_true q6
   have p8 : 0 ≤ (13 : Int) := (by omega)
   have q8 : 13 < a0.size := (by have : (13 : Int) < (a0.size : Int) := zV (by first | (with_reducible assumption) | assumption); omega)
   have hx8 : ∀ h : 13 < a0.size, ((a0[13]'h).toNat : Int) = bt a0 13 := bt_at a0 13
   clear p8
   have qi8 : (13 < (a0.size : Int)) = True := eq_true (zV (by first | (with_reducible assumption) | assumption))
   replace q8 := eq_true q8
   have p11 : 0 ≤ (14 : Int) := (by omega)
   have q11 : 14 < a0.size := (by have : (14 : Int) < (a0.size : Int) := zV (by first | (with_reducible assumption) | assumption); omega)
   have hx11 : ∀ h : 14 < a0.size, ((a0[14]'h).toNat : Int) = bt a0 14 := bt_at a0 14
   clear p11
   have qi11 : (14 < (a0.size : Int)) = True := eq_true (zV (by first | (with_reducible assumption) | assumption))
   replace q11 := eq_true q11
   have p13 : 0 ≤ (15 : Int) := (by omega)
   have q13 : 15 < a0.size := (by have : (15 : Int) < (a0.size : Int) := zV (by first | (with_reducible assumption) | assumption); omega)
   have hx13 : ∀ h : 15 < a0.size, ((a0[15]'h).toNat : Int) = bt a0 15 := bt_at a0 15
   clear p13
   have qi13 : (15 < (a0.size : Int)) = True := eq_true (zV (by first | (with_reducible assumption) | assumption))
   replace q13 := eq_true q13
   have p15 : 0 ≤ (16 : Int) := (by omega)
   have q15 : 16 < a0.size := (by have : (16 : Int) < (a0.size : Int) := zV (by first | (with_reducible assumption) | assumption); omega)
   have hx15 : ∀ h : 16 < a0.size, ((a0[16]'h).toNat : Int) = bt a0 16 := bt_at a0 16
   clear p15
   have qi15 : (16 < (a0.size : Int)) = True := eq_true (zV (by first | (with_reducible assumption) | assumption))
   replace q15 := eq_true q15
   have p17 : 0 ≤ (17 : Int) := (by omega)
   have q17 : 17 < a0.size := (by have : (17 : Int) < (a0.size : Int) := zV (by first | (with_reducible assumption) | assumption); omega)
   have hx17 : ∀ h : 17 < a0.size, ((a0[17]'h).toNat : Int) = bt a0 17 := bt_at a0 17
   clear p17
   have qi17 : (17 < (a0.size : Int)) = True := eq_true (zV (by first | (with_reducible assumption) | assumption))
   replace q17 := eq_true q17
   refine start_ (n := 27) (S := fun w' => True) (ds := []) #[false, false, false, false, false, false, false, false, false, false, false, false, false, false, false, false, false, false, false, false, false, false, false, false, false, false, false] (by kernel_rfl) rfl rfl trivial (fun hHeld => ?_); refine with_tabW ref23_Get.tab3 ref23_Get.bits3 (fun HT_ HW_ => ?_)
   generalize w40.drew = w41 at BK298 HB hHeld ⊢
   refine pure_ (i := 0) (N := some 9) (v := ?_) (a' := ?_) #[true, false, false, false, false, false, false, false, false, false, false, false, false, false, false, false, false, false, false, false, false, false, false, false, false, false, false] rfl rfl (any_of HT_.out (by kernel_rfl)) (fun _ _ _ h => h) (Or.inl ⟨by rfl, ?_⟩) ?_ ?_
   rotate_left
   ·intro w'
    go_simp
    with_reducible rfl
   rotate_left
   ·simp only [Act.put, zA, zB, zC, i64_w, i32_w]
    rfl
   refine pure_ (i := 2) (N := some 11) (v := ?_) (a' := ?_) #[true, false, true, false, false, false, false, false, false, false, false, false, false, false, false, false, false, false, false, false, false, false, false, false, false, false, false] rfl rfl (any_of HT_.out (by kernel_rfl)) (fun _ _ _ h => h) (Or.inl ⟨by rfl, ?_⟩) ?_ ?_
   rotate_left
   ·intro w'
    go_simp
    with_reducible rfl
   rotate_left
   ·simp only [Act.put, zA, zB, zC, i64_w, i32_w]
    rfl
   refine pure_ (i := 4) (N := some 13) (v := ?_) (a' := ?_) #[true, false, true, false, true, false, false, false, false, false, false, false, false, false, false, false, false, false, false, false, false, false, false, false, false, false, false] rfl rfl (any_of HT_.out (by kernel_rfl)) (fun _ _ _ h => h) (Or.inl ⟨by rfl, ?_⟩) ?_ ?_
   rotate_left
   ·intro w'
    go_simp
    with_reducible rfl
   rotate_left
   ·simp only [Act.put, zA, zB, zC, i64_w, i32_w]
    rfl
   refine pure_ (i := 7) (N := some 16) (v := ?_) (a' := ?_) #[true, false, true, false, true, false, false, true, false, false, false, false, false, false, false, false, false, false, false, false, false, false, false, false, false, false, false] rfl rfl (any_of HT_.out (by kernel_rfl)) (fun _ _ _ h => h) (Or.inl ⟨by rfl, ?_⟩) ?_ ?_
   rotate_left
   ·intro w'
    go_simp
    with_reducible rfl
   rotate_left
   ·simp only [Act.put, zA, zB, zC, i64_w, i32_w]
    rfl
   refine pure_ (i := 10) (N := some 19) (v := ?_) (a' := ?_) #[true, false, true, false, true, false, false, true, false, false, true, false, false, false, false, false, false, false, false, false, false, false, false, false, false, false, false] rfl rfl (any_of HT_.out (by kernel_rfl)) (fun _ _ _ h => h) (Or.inl ⟨by rfl, ?_⟩) ?_ ?_
   rotate_left
   ·intro w'
    go_simp
    with_reducible rfl
   rotate_left
   ·simp only [Act.put, zA, zB, zC, i64_w, i32_w]
    rfl
   refine pure_ (i := 13) (N := some 22) (v := ?_) (a' := ?_) #[true, false, true, false, true, false, false, true, false, false, true, false, false, true, false, false, false, false, false, false, false, false, false, false, false, false, false] rfl rfl (any_of HT_.out (by kernel_rfl)) (fun _ _ _ h => h) (Or.inl ⟨by rfl, ?_⟩) ?_ ?_
   rotate_left
   ·intro w'
    go_simp
    with_reducible rfl
   rotate_left
   ·simp only [Act.put, zA, zB, zC, i64_w, i32_w]
    rfl
   refine pure_ (i := 16) (N := some 25) (v := ?_) (a' := ?_) #[true, false, true, false, true, false, false, true, false, false, true, false, false, true, false, false, true, false, false, false, false, false, false, false, false, false, false] rfl rfl (any_of HT_.out (by kernel_rfl)) (fun _ _ _ h => h) (Or.inl ⟨by rfl, ?_⟩) ?_ ?_
   rotate_left
   ·intro w'
    go_simp
    with_reducible rfl
   rotate_left
   ·simp only [Act.put, zA, zB, zC, i64_w, i32_w]
    rfl
   refine pure_ (i := 19) (N := some 28) (v := ?_) (a' := ?_) #[true, false, true, false, true, false, false, true, false, false, true, false, false, true, false, false, true, false, false, true, false, false, false, false, false, false, false] rfl rfl (any_of HT_.out (by kernel_rfl)) (fun _ _ _ h => h) (Or.inl ⟨by rfl, ?_⟩) ?_ ?_
   rotate_left
   ·intro w'
    go_simp
    with_reducible rfl
   rotate_left
   ·simp only [Act.put, zA, zB, zC, i64_w, i32_w]
    rfl
   refine pure_ (i := 22) (N := some 31) (v := ?_) (a' := ?_) #[true, false, true, false, true, false, false, true, false, false, true, false, false, true, false, false, true, false, false, true, false, false, true, false, false, false, false] rfl rfl (any_of HT_.out (by kernel_rfl)) (fun _ _ _ h => h) (Or.inl ⟨by rfl, ?_⟩) ?_ ?_
   rotate_left
   ·intro w'
    go_simp
    with_reducible rfl
   rotate_left
   ·simp only [Act.put, zA, zB, zC, i64_w, i32_w]
    rfl
   refine take_ (i := 5) (N := some 14) (v := ?_) (a' := ?_) #[true, false, true, false, true, true, false, true, false, false, true, false, false, true, false, false, true, false, false, true, false, false, true, false, false, false, false] rfl rfl (take_ofW HT_.out HW_.out (by kernel_rfl)) (fun _ _ _ h => h) (Or.inl ⟨by rfl, ?_⟩) hHeld ?_ ?_
   rotate_left
   ·intro w' _
    go_simp
    with_reducible rfl
   rotate_left
   ·simp only [Act.put, zA, zB, zC, i64_w, i32_w]
    rfl
   refine pure_ (i := 6) (N := some 15) (v := ?_) (a' := ?_) #[true, false, true, false, true, true, true, true, false, false, true, false, false, true, false, false, true, false, false, true, false, false, true, false, false, false, false] rfl rfl (any_of HT_.out (by kernel_rfl)) (fun _ _ _ h => h) (Or.inl ⟨by rfl, ?_⟩) ?_ ?_
   rotate_left
   ·intro w'
    go_simp
    with_reducible rfl
   rotate_left
   ·simp only [Act.put, zA, zB, zC, i64_w, i32_w]
    rfl
   refine take_ (i := 8) (N := some 17) (v := ?_) (a' := ?_) #[true, false, true, false, true, true, true, true, true, false, true, false, false, true, false, false, true, false, false, true, false, false, true, false, false, false, false] rfl rfl (take_ofW HT_.out HW_.out (by kernel_rfl)) (fun _ _ _ h => h) (Or.inl ⟨by rfl, ?_⟩) hHeld ?_ ?_
   rotate_left
   ·intro w' _
    go_simp
    with_reducible rfl
   rotate_left
   ·simp only [Act.put, zA, zB, zC, i64_w, i32_w]
    rfl
   refine take_ (i := 11) (N := some 20) (v := ?_) (a' := ?_) #[true, false, true, false, true, true, true, true, true, false, true, true, false, true, false, false, true, false, false, true, false, false, true, false, false, false, false] rfl rfl (take_ofW HT_.out HW_.out (by kernel_rfl)) (fun _ _ _ h => h) (Or.inl ⟨by rfl, ?_⟩) hHeld ?_ ?_
   rotate_left
   ·intro w' _
    go_simp
    with_reducible rfl
   rotate_left
   ·simp only [Act.put, zA, zB, zC, i64_w, i32_w]
    rfl
   refine pure_ (i := 12) (N := some 21) (v := ?_) (a' := ?_) #[true, false, true, false, true, true, true, true, true, false, true, true, true, true, false, false, true, false, false, true, false, false, true, false, false, false, false] rfl rfl (any_of HT_.out (by kernel_rfl)) (fun _ _ _ h => h) (Or.inl ⟨by rfl, ?_⟩) ?_ ?_
   rotate_left
   ·intro w'
    go_simp
    with_reducible rfl
   rotate_left
   ·simp only [Act.put, zA, zB, zC, i64_w, i32_w]
    rfl
   refine take_ (i := 14) (N := some 23) (v := ?_) (a' := ?_) #[true, false, true, false, true, true, true, true, true, false, true, true, true, true, true, false, true, false, false, true, false, false, true, false, false, false, false] rfl rfl (take_ofW HT_.out HW_.out (by kernel_rfl)) (fun _ _ _ h => h) (Or.inl ⟨by rfl, ?_⟩) hHeld ?_ ?_
   rotate_left
   ·intro w' _
    go_simp
    with_reducible rfl
   rotate_left
   ·simp only [Act.put, zA, zB, zC, i64_w, i32_w]
    rfl
   refine pure_ (i := 15) (N := some 24) (v := ?_) (a' := ?_) #[true, false, true, false, true, true, true, true, true, false, true, true, true, true, true, true, true, false, false, true, false, false, true, false, false, false, false] rfl rfl (any_of HT_.out (by kernel_rfl)) (fun _ _ _ h => h) (Or.inl ⟨by rfl, ?_⟩) ?_ ?_
   rotate_left
   ·intro w'
    go_simp
    with_reducible rfl
   rotate_left
   ·simp only [Act.put, zA, zB, zC, i64_w, i32_w]
    rfl
   refine take_ (i := 17) (N := some 26) (v := ?_) (a' := ?_) #[true, false, true, false, true, true, true, true, true, false, true, true, true, true, true, true, true, true, false, true, false, false, true, false, false, false, false] rfl rfl (take_ofW HT_.out HW_.out (by kernel_rfl)) (fun _ _ _ h => h) (Or.inl ⟨by rfl, ?_⟩) hHeld ?_ ?_
   rotate_left
   ·intro w' _
    go_simp
    with_reducible rfl
   rotate_left
   ·simp only [Act.put, zA, zB, zC, i64_w, i32_w]
    rfl
   refine pure_ (i := 18) (N := some 27) (v := ?_) (a' := ?_) #[true, false, true, false, true, true, true, true, true, false, true, true, true, true, true, true, true, true, true, true, false, false, true, false, false, false, false] rfl rfl (any_of HT_.out (by kernel_rfl)) (fun _ _ _ h => h) (Or.inl ⟨by rfl, ?_⟩) ?_ ?_
   rotate_left
   ·intro w'
    go_simp
    with_reducible rfl
   rotate_left
   ·simp only [Act.put, zA, zB, zC, i64_w, i32_w]
    rfl
   refine take_ (i := 20) (N := some 29) (v := ?_) (a' := ?_) #[true, false, true, false, true, true, true, true, true, false, true, true, true, true, true, true, true, true, true, true, true, false, true, false, false, false, false] rfl rfl (take_ofW HT_.out HW_.out (by kernel_rfl)) (fun _ _ _ h => h) (Or.inl ⟨by rfl, ?_⟩) hHeld ?_ ?_
   rotate_left
   ·intro w' _
    go_simp
    with_reducible rfl
   rotate_left
   ·simp only [Act.put, zA, zB, zC, i64_w, i32_w]
    rfl
   refine join_ (σ := Nat) 1 #[true, true, true, true, true, true, true, true, true, true, true, true, true, true, true, true, true, true, true, true, true, true, true, true, true, true, false] (fun s_ => [(10, .int .i64 t299), (12, .int .i64 t300), (18, .int .i64 t301), (30, .int .i64 t302), (32, .int .i64 t303), (4, .pointer (some ⟨s_, 0, none⟩)), (33, .agg #[.int .i64 t299, .int .i64 t300, .int .i64 (wrap64 (bt a0 12)), .int .i64 t301, .int .i64 (wrap64 (bt a0 14)), .int .i64 (wrap64 (bt a0 15)), .int .i64 (wrap64 (bt a0 16)), .int .i64 t302, .int .i64 t303])]) (fun s_ w' => (w'.heap[gb298]? = some (.cells #[.int .i64 0, .int .i64 0, .int .i64 0, .int .i64 0, .int .i64 0, .int .i64 0, .int .i64 0, .int .i64 0, .int .i64 0] 48 (0, 0))) ∧ (w'.heap[s_]? = some (.cells #[.int .i64 0, .int .i64 0, .int .i64 0, .int .i64 0, .int .i64 0, .int .i64 0, .int .i64 0, .int .i64 0, .int .i64 0] 48 (0, 0))) ∧ (w.heap.size ≤ s_) ∧ (w.heap.size ≤ s_) ∧ (gb298 ≠ s_) ∧ (s_ ≠ gb298) ∧ (Below w.heap.size w w')) ?_ ?_
   rotate_left
   ·intro hJ1_3_9_21_23_25
    refine join_ (σ := Unit) 2 #[true, true, true, true, true, true, true, true, true, true, true, true, true, true, true, true, true, true, true, true, true, true, true, true, true, false, false] (fun s_ => [(10, .int .i64 t299), (12, .int .i64 t300), (18, .int .i64 t301), (30, .int .i64 t302), (32, .int .i64 t303), (33, .agg #[.int .i64 t299, .int .i64 t300, .int .i64 (wrap64 (bt a0 12)), .int .i64 t301, .int .i64 (wrap64 (bt a0 14)), .int .i64 (wrap64 (bt a0 15)), .int .i64 (wrap64 (bt a0 16)), .int .i64 t302, .int .i64 t303])]) (fun s_ w' => (w'.heap[gb298]? = some (.cells #[.int .i64 0, .int .i64 0, .int .i64 0, .int .i64 0, .int .i64 0, .int .i64 0, .int .i64 0, .int .i64 0, .int .i64 0] 48 (0, 0))) ∧ (Below w.heap.size w w')) ?_ ?_
    rotate_left
    ·intro hJ1_3_9_21_23
     refine join_ (σ := Nat) 3 #[true, true, true, true, true, true, true, true, true, true, true, true, true, true, true, true, true, true, true, true, true, true, true, false, false, true, false] (fun s_ => [(10, .int .i64 t299), (12, .int .i64 t300), (18, .int .i64 t301), (30, .int .i64 t302), (4, .pointer (some ⟨s_, 0, none⟩))]) (fun s_ w' => (w'.heap[gb298]? = some (.cells #[.int .i64 0, .int .i64 0, .int .i64 0, .int .i64 0, .int .i64 0, .int .i64 0, .int .i64 0, .int .i64 0, .int .i64 0] 48 (0, 0))) ∧ (w'.heap[s_]? = some (.cells #[.int .i64 0, .int .i64 0, .int .i64 0, .int .i64 0, .int .i64 0, .int .i64 0, .int .i64 0, .int .i64 0, .int .i64 0] 48 (0, 0))) ∧ (w.heap.size ≤ s_) ∧ (w.heap.size ≤ s_) ∧ (gb298 ≠ s_) ∧ (s_ ≠ gb298) ∧ (Below w.heap.size w w')) ?_ ?_
     rotate_left
     ·intro hJ1_3_9_21_25
      refine join_ (σ := Unit) 4 #[true, true, true, true, true, true, true, true, true, true, true, true, true, true, true, true, true, true, true, true, true, true, true, false, false, false, false] (fun s_ => [(10, .int .i64 t299), (12, .int .i64 t300), (18, .int .i64 t301), (30, .int .i64 t302)]) (fun s_ w' => (w'.heap[gb298]? = some (.cells #[.int .i64 0, .int .i64 0, .int .i64 0, .int .i64 0, .int .i64 0, .int .i64 0, .int .i64 0, .int .i64 0, .int .i64 0] 48 (0, 0))) ∧ (Below w.heap.size w w')) ?_ ?_
      rotate_left
      ·intro hJ1_3_9_21
       refine join_ (σ := Nat) 4 #[true, true, true, true, true, true, true, true, true, true, true, true, true, true, true, true, true, true, true, true, true, false, true, false, false, true, false] (fun s_ => [(10, .int .i64 t299), (12, .int .i64 t300), (18, .int .i64 t301), (4, .pointer (some ⟨s_, 0, none⟩))]) (fun s_ w' => (w'.heap[gb298]? = some (.cells #[.int .i64 0, .int .i64 0, .int .i64 0, .int .i64 0, .int .i64 0, .int .i64 0, .int .i64 0, .int .i64 0, .int .i64 0] 48 (0, 0))) ∧ (w'.heap[s_]? = some (.cells #[.int .i64 0, .int .i64 0, .int .i64 0, .int .i64 0, .int .i64 0, .int .i64 0, .int .i64 0, .int .i64 0, .int .i64 0] 48 (0, 0))) ∧ (w.heap.size ≤ s_) ∧ (w.heap.size ≤ s_) ∧ (gb298 ≠ s_) ∧ (s_ ≠ gb298) ∧ (Below w.heap.size w w')) ?_ ?_
       rotate_left
       ·intro hJ1_3_9_25
        refine join_ (σ := Unit) 5 #[true, true, true, true, true, true, true, true, true, true, true, true, true, true, true, true, true, true, true, true, true, false, true, false, false, false, false] (fun s_ => [(10, .int .i64 t299), (12, .int .i64 t300), (18, .int .i64 t301)]) (fun s_ w' => (w'.heap[gb298]? = some (.cells #[.int .i64 0, .int .i64 0, .int .i64 0, .int .i64 0, .int .i64 0, .int .i64 0, .int .i64 0, .int .i64 0, .int .i64 0] 48 (0, 0))) ∧ (Below w.heap.size w w')) ?_ ?_
        rotate_left
        ·intro hJ1_3_9
         refine join_ (σ := Nat) 5 #[true, true, true, true, true, true, true, true, true, false, true, true, true, true, true, true, true, true, true, true, true, false, true, false, false, true, false] (fun s_ => [(10, .int .i64 t299), (12, .int .i64 t300), (4, .pointer (some ⟨s_, 0, none⟩))]) (fun s_ w' => (w'.heap[gb298]? = some (.cells #[.int .i64 0, .int .i64 0, .int .i64 0, .int .i64 0, .int .i64 0, .int .i64 0, .int .i64 0, .int .i64 0, .int .i64 0] 48 (0, 0))) ∧ (w'.heap[s_]? = some (.cells #[.int .i64 0, .int .i64 0, .int .i64 0, .int .i64 0, .int .i64 0, .int .i64 0, .int .i64 0, .int .i64 0, .int .i64 0] 48 (0, 0))) ∧ (w.heap.size ≤ s_) ∧ (w.heap.size ≤ s_) ∧ (gb298 ≠ s_) ∧ (s_ ≠ gb298) ∧ (Below w.heap.size w w')) ?_ ?_
         rotate_left
         ·intro hJ1_3_25
          refine join_ (σ := Unit) 6 #[true, true, true, true, true, true, true, true, true, false, true, true, true, true, true, true, true, true, true, true, true, false, true, false, false, false, false] (fun s_ => [(10, .int .i64 t299), (12, .int .i64 t300)]) (fun s_ w' => (w'.heap[gb298]? = some (.cells #[.int .i64 0, .int .i64 0, .int .i64 0, .int .i64 0, .int .i64 0, .int .i64 0, .int .i64 0, .int .i64 0, .int .i64 0] 48 (0, 0))) ∧ (Below w.heap.size w w')) ?_ ?_
          rotate_left
          ·intro hJ1_3
           refine join_ (σ := Nat) 6 #[true, true, true, false, true, true, true, true, true, false, true, true, true, true, true, true, true, true, true, true, true, false, true, false, false, true, false] (fun s_ => [(10, .int .i64 t299), (4, .pointer (some ⟨s_, 0, none⟩))]) (fun s_ w' => (w'.heap[gb298]? = some (.cells #[.int .i64 0, .int .i64 0, .int .i64 0, .int .i64 0, .int .i64 0, .int .i64 0, .int .i64 0, .int .i64 0, .int .i64 0] 48 (0, 0))) ∧ (w'.heap[s_]? = some (.cells #[.int .i64 0, .int .i64 0, .int .i64 0, .int .i64 0, .int .i64 0, .int .i64 0, .int .i64 0, .int .i64 0, .int .i64 0] 48 (0, 0))) ∧ (w.heap.size ≤ s_) ∧ (w.heap.size ≤ s_) ∧ (gb298 ≠ s_) ∧ (s_ ≠ gb298) ∧ (Below w.heap.size w w')) ?_ ?_
           rotate_left
           ·intro hJ1_25
            refine join_ (σ := Unit) 7 #[true, true, true, false, true, true, true, true, true, false, true, true, true, true, true, true, true, true, true, true, true, false, true, false, false, false, false] (fun s_ => [(10, .int .i64 t299)]) (fun s_ w' => (w'.heap[gb298]? = some (.cells #[.int .i64 0, .int .i64 0, .int .i64 0, .int .i64 0, .int .i64 0, .int .i64 0, .int .i64 0, .int .i64 0, .int .i64 0] 48 (0, 0))) ∧ (Below w.heap.size w w')) ?_ ?_
            rotate_left
            ·intro hJ1
             refine join_ (σ := Nat) 7 #[true, false, true, false, true, true, true, true, true, false, true, true, true, true, true, true, true, true, true, true, true, false, true, false, false, true, false] (fun s_ => [(4, .pointer (some ⟨s_, 0, none⟩))]) (fun s_ w' => (w'.heap[gb298]? = some (.cells #[.int .i64 0, .int .i64 0, .int .i64 0, .int .i64 0, .int .i64 0, .int .i64 0, .int .i64 0, .int .i64 0, .int .i64 0] 48 (0, 0))) ∧ (w'.heap[s_]? = some (.cells #[.int .i64 0, .int .i64 0, .int .i64 0, .int .i64 0, .int .i64 0, .int .i64 0, .int .i64 0, .int .i64 0, .int .i64 0] 48 (0, 0))) ∧ (w.heap.size ≤ s_) ∧ (w.heap.size ≤ s_) ∧ (gb298 ≠ s_) ∧ (s_ ≠ gb298) ∧ (Below w.heap.size w w')) ?_ ?_
             rotate_left
             ·intro hJ25
              refine two_ (i := 1) (j := 25) (Ni := some 10) (Nj := some 4) #[true, true, true, false, true, true, true, true, true, false, true, true, true, true, true, true, true, true, true, true, true, false, true, false, false, false, false] #[true, false, true, false, true, true, true, true, true, false, true, true, true, true, true, true, true, true, true, true, true, false, true, false, false, true, false] rfl rfl rfl rfl (two_of HT_.out (by kernel_rfl)) (by decide) (by decide) (fun K hK => ?_) (fun K hK => ?_)
              ·skip
               refine goes_ Try.func50 (by kernel_rfl) rfl #[.string a0, .int .i64 0] (by rfl) rfl rfl (by (try simp only [zO, zP, zQ]); first | done | rfl | (simp only [zS, zR]; rfl)) ?_
               with_reducible refine (ref23_number.calls a0 0 t299 _ A3.out).mono ?_
               rintro e w' ⟨rfl, ⟨nd, rfl⟩⟩
               refine ⟨_, rfl, ?_⟩
               refine hK.out _ _ trivial (fun hHeld => ?_)
               clear hK K
               refine norm_ (a' := ?_) ?_ ?_
               rotate_left
               ·show Act.put _ (some 10) _ = _
                simp only [Act.put, zA, zB, zC, i64_w, i32_w]
                rfl
               exact norm_ (by first | (simp only [putAll, Act.put, zA, zB, zC]; done) | (simp only [putAll, Act.put, zA, zB, zC]; rfl)) (hJ1 () _ ⟨(by (with_reducible repeat (first | refine zH ?_ _ | refine zI ?_ | refine zG ?_ _)); exact BK298.out), (by repeat (first | (with_reducible first | exact HB.out | apply zF | apply zD | apply zE | refine zJ ?_ GE298.out) | exact HB.out))⟩)
              ·skip
               refine box_step ?hg (N := 4) ?hd (cs := #[.int .i64 0, .int .i64 0, .int .i64 0, .int .i64 0, .int .i64 0, .int .i64 0, .int .i64 0, .int .i64 0, .int .i64 0]) (t := 48) ?hr ?_; (case hd => rfl); (case hg => rfl); (case hr => first | (go_simp; done) | (go_simp; rfl))
               intro gb304 hg w42 hbox hb
               have n0_ := Aside0.mk (blk_below (g := gb298) (o := .cells #[.int .i64 0, .int .i64 0, .int .i64 0, .int .i64 0, .int .i64 0, .int .i64 0, .int .i64 0, .int .i64 0, .int .i64 0] 48 (0, 0)) (by (with_reducible repeat (first | refine zH ?_ _ | refine zI ?_ | refine zG ?_ _)); exact BK298.out) hb)
               have n1_ := Aside0.mk (zU (by repeat (first | (with_reducible first | exact HB.out | apply zF | apply zD | apply zE | refine zJ ?_ GE298.out) | exact HB.out)) hb)
               have n2_ := Aside0.mk (hbox)
               have n3_ := Aside0.mk ((by rw [hg]; exact (zT (by repeat (first | (with_reducible first | exact HB.out | apply zF | apply zD | apply zE | refine zJ ?_ GE298.out) | exact HB.out))) : w.heap.size ≤ gb304))
               have n4_ := Aside0.mk ((by rw [hg]; exact (zT (by repeat (first | (with_reducible first | exact HB.out | apply zF | apply zD | apply zE | refine zJ ?_ GE298.out) | exact HB.out))) : w.heap.size ≤ gb304))
               have n5_ := Aside0.mk ((by rw [hg]; exact Nat.ne_of_lt (blk_lt (g := gb298) (o := .cells #[.int .i64 0, .int .i64 0, .int .i64 0, .int .i64 0, .int .i64 0, .int .i64 0, .int .i64 0, .int .i64 0, .int .i64 0] 48 (0, 0)) (by (with_reducible repeat (first | refine zH ?_ _ | refine zI ?_ | refine zG ?_ _)); exact BK298.out)) : gb298 ≠ gb304))
               have n6_ := Aside0.mk ((by rw [hg]; exact Nat.ne_of_gt (blk_lt (g := gb298) (o := .cells #[.int .i64 0, .int .i64 0, .int .i64 0, .int .i64 0, .int .i64 0, .int .i64 0, .int .i64 0, .int .i64 0, .int .i64 0] 48 (0, 0)) (by (with_reducible repeat (first | refine zH ?_ _ | refine zI ?_ | refine zG ?_ _)); exact BK298.out)) : gb304 ≠ gb298))
               clear BK298
               clear HB
               have BK298 := n0_
               have HB := n1_
               have BK304 := n2_
               have GW304 := n3_
               have GE304 := n4_
               have NB298_304 := n5_
               have NB304_298 := n6_
               clear n0_ n1_ n2_ n3_ n4_ n5_ n6_
               clear hb hbox hg
               refine hK.out _ _ trivial (fun hHeld => ?_)
               clear hK K
               refine norm_ (a' := ?_) ?_ ?_
               rotate_left
               ·show Act.put _ (some 4) _ = _
                simp only [Act.put, zA, zB, zC, i64_w, i32_w]
                rfl
               exact norm_ (by first | (simp only [putAll, Act.put, zA, zB, zC]; done) | (simp only [putAll, Act.put, zA, zB, zC]; rfl)) (hJ25 (gb304) _ ⟨(by (with_reducible repeat (first | refine zH ?_ _ | refine zI ?_ | refine zG ?_ _)); exact BK298.out), (by (with_reducible repeat (first | refine zH ?_ _ | refine zI ?_ | refine zG ?_ _)); exact BK304.out), GW304.out, GE304.out, NB298_304.out, NB304_298.out, (by repeat (first | (with_reducible first | exact HB.out | apply zF | apply zD | apply zE | refine zJ ?_ GE298.out | refine zJ ?_ GE304.out) | exact HB.out))⟩)
             ·skip
              rintro gb304 w43 ⟨h0_, h1_, h2_, h3_, h4_, h5_, h6_⟩
              have n0_ : Aside0 (w43.heap[gb298]? = some (.cells #[.int .i64 0, .int .i64 0, .int .i64 0, .int .i64 0, .int .i64 0, .int .i64 0, .int .i64 0, .int .i64 0, .int .i64 0] 48 (0, 0))) := ⟨h0_⟩
              have n1_ : Aside0 (w43.heap[gb304]? = some (.cells #[.int .i64 0, .int .i64 0, .int .i64 0, .int .i64 0, .int .i64 0, .int .i64 0, .int .i64 0, .int .i64 0, .int .i64 0] 48 (0, 0))) := ⟨h1_⟩
              have n2_ : Aside0 (w.heap.size ≤ gb304) := ⟨h2_⟩
              have n3_ : Aside0 (w.heap.size ≤ gb304) := ⟨h3_⟩
              have n4_ : Aside0 (gb298 ≠ gb304) := ⟨h4_⟩
              have n5_ : Aside0 (gb304 ≠ gb298) := ⟨h5_⟩
              have n6_ : Aside0 (Below w.heap.size w w43) := ⟨h6_⟩
              clear BK298
              clear HB
              clear h0_ h1_ h2_ h3_ h4_ h5_ h6_
              have BK298 := n0_
              have BK304 := n1_
              have GW304 := n2_
              have GE304 := n3_
              have NB298_304 := n4_
              have NB304_298 := n5_
              have HB := n6_
              clear n0_ n1_ n2_ n3_ n4_ n5_ n6_
              have hHeld := trivial
              refine norm_ (a' := ?_) ?_ ?_
              rotate_left
              ·simp only [putAll, Act.put, zA, zB, zC]
               rfl
              refine one_ (i := 1) (N := some 10) #[true, true, true, false, true, true, true, true, true, false, true, true, true, true, true, true, true, true, true, true, true, false, true, false, false, true, false] rfl rfl (one_of HT_.out (by kernel_rfl)) (by decide) (fun K hK => ?_)
              refine goes_ Try.func50 (by kernel_rfl) rfl #[.string a0, .int .i64 0] (by rfl) rfl rfl (by (try simp only [zO, zP, zQ]); first | done | rfl | (simp only [zS, zR]; rfl)) ?_
              with_reducible refine (ref23_number.calls a0 0 t299 _ A3.out).mono ?_
              rintro e w' ⟨rfl, ⟨nd, rfl⟩⟩
              refine ⟨_, rfl, ?_⟩
              refine hK.out _ _ trivial (fun hHeld => ?_)
              clear hK K
              refine norm_ (a' := ?_) ?_ ?_
              rotate_left
              ·show Act.put _ (some 10) _ = _
               simp only [Act.put, zA, zB, zC, i64_w, i32_w]
               rfl
              exact norm_ (by first | (simp only [putAll, Act.put, zA, zB, zC]; done) | (simp only [putAll, Act.put, zA, zB, zC]; rfl)) (hJ1_25 (gb304) _ ⟨(by (with_reducible repeat (first | refine zH ?_ _ | refine zI ?_ | refine zG ?_ _)); exact BK298.out), (by (with_reducible repeat (first | refine zH ?_ _ | refine zI ?_ | refine zG ?_ _)); exact BK304.out), GW304.out, GE304.out, NB298_304.out, NB304_298.out, (by repeat (first | (with_reducible first | exact HB.out | apply zF | apply zD | apply zE | refine zJ ?_ GE298.out | refine zJ ?_ GE304.out) | exact HB.out))⟩)
            ·skip
             rintro _ w42 ⟨h0_, h1_⟩
             have n0_ : Aside0 (w42.heap[gb298]? = some (.cells #[.int .i64 0, .int .i64 0, .int .i64 0, .int .i64 0, .int .i64 0, .int .i64 0, .int .i64 0, .int .i64 0, .int .i64 0] 48 (0, 0))) := ⟨h0_⟩
             have n1_ : Aside0 (Below w.heap.size w w42) := ⟨h1_⟩
             clear BK298
             clear HB
             clear h0_ h1_
             have BK298 := n0_
             have HB := n1_
             clear n0_ n1_
             have hHeld := trivial
             refine norm_ (a' := ?_) ?_ ?_
             rotate_left
             ·simp only [putAll, Act.put, zA, zB, zC]
              rfl
             refine two_ (i := 3) (j := 25) (Ni := some 12) (Nj := some 4) #[true, true, true, true, true, true, true, true, true, false, true, true, true, true, true, true, true, true, true, true, true, false, true, false, false, false, false] #[true, true, true, false, true, true, true, true, true, false, true, true, true, true, true, true, true, true, true, true, true, false, true, false, false, true, false] rfl rfl rfl rfl (two_of HT_.out (by kernel_rfl)) (by decide) (by decide) (fun K hK => ?_) (fun K hK => ?_)
             ·skip
              refine goes_ Try.func50 (by kernel_rfl) rfl #[.string a0, .int .i64 6] (by rfl) rfl rfl (by (try simp only [zO, zP, zQ]); first | done | rfl | (simp only [zS, zR]; rfl)) ?_
              with_reducible refine (ref23_number.calls a0 6 t300 _ A4.out).mono ?_
              rintro e w' ⟨rfl, ⟨nd, rfl⟩⟩
              refine ⟨_, rfl, ?_⟩
              refine hK.out _ _ trivial (fun hHeld => ?_)
              clear hK K
              refine norm_ (a' := ?_) ?_ ?_
              rotate_left
              ·show Act.put _ (some 12) _ = _
               simp only [Act.put, zA, zB, zC, i64_w, i32_w]
               rfl
              exact norm_ (by first | (simp only [putAll, Act.put, zA, zB, zC]; done) | (simp only [putAll, Act.put, zA, zB, zC]; rfl)) (hJ1_3 () _ ⟨(by (with_reducible repeat (first | refine zH ?_ _ | refine zI ?_ | refine zG ?_ _)); exact BK298.out), (by repeat (first | (with_reducible first | exact HB.out | apply zF | apply zD | apply zE | refine zJ ?_ GE298.out) | exact HB.out))⟩)
             ·skip
              refine box_step ?hg (N := 4) ?hd (cs := #[.int .i64 0, .int .i64 0, .int .i64 0, .int .i64 0, .int .i64 0, .int .i64 0, .int .i64 0, .int .i64 0, .int .i64 0]) (t := 48) ?hr ?_; (case hd => rfl); (case hg => rfl); (case hr => first | (go_simp; done) | (go_simp; rfl))
              intro gb304 hg w43 hbox hb
              have n0_ := Aside0.mk (blk_below (g := gb298) (o := .cells #[.int .i64 0, .int .i64 0, .int .i64 0, .int .i64 0, .int .i64 0, .int .i64 0, .int .i64 0, .int .i64 0, .int .i64 0] 48 (0, 0)) (by (with_reducible repeat (first | refine zH ?_ _ | refine zI ?_ | refine zG ?_ _)); exact BK298.out) hb)
              have n1_ := Aside0.mk (zU (by repeat (first | (with_reducible first | exact HB.out | apply zF | apply zD | apply zE | refine zJ ?_ GE298.out) | exact HB.out)) hb)
              have n2_ := Aside0.mk (hbox)
              have n3_ := Aside0.mk ((by rw [hg]; exact (zT (by repeat (first | (with_reducible first | exact HB.out | apply zF | apply zD | apply zE | refine zJ ?_ GE298.out) | exact HB.out))) : w.heap.size ≤ gb304))
              have n4_ := Aside0.mk ((by rw [hg]; exact (zT (by repeat (first | (with_reducible first | exact HB.out | apply zF | apply zD | apply zE | refine zJ ?_ GE298.out) | exact HB.out))) : w.heap.size ≤ gb304))
              have n5_ := Aside0.mk ((by rw [hg]; exact Nat.ne_of_lt (blk_lt (g := gb298) (o := .cells #[.int .i64 0, .int .i64 0, .int .i64 0, .int .i64 0, .int .i64 0, .int .i64 0, .int .i64 0, .int .i64 0, .int .i64 0] 48 (0, 0)) (by (with_reducible repeat (first | refine zH ?_ _ | refine zI ?_ | refine zG ?_ _)); exact BK298.out)) : gb298 ≠ gb304))
              have n6_ := Aside0.mk ((by rw [hg]; exact Nat.ne_of_gt (blk_lt (g := gb298) (o := .cells #[.int .i64 0, .int .i64 0, .int .i64 0, .int .i64 0, .int .i64 0, .int .i64 0, .int .i64 0, .int .i64 0, .int .i64 0] 48 (0, 0)) (by (with_reducible repeat (first | refine zH ?_ _ | refine zI ?_ | refine zG ?_ _)); exact BK298.out)) : gb304 ≠ gb298))
              clear BK298
              clear HB
              have BK298 := n0_
              have HB := n1_
              have BK304 := n2_
              have GW304 := n3_
              have GE304 := n4_
              have NB298_304 := n5_
              have NB304_298 := n6_
              clear n0_ n1_ n2_ n3_ n4_ n5_ n6_
              clear hb hbox hg
              refine hK.out _ _ trivial (fun hHeld => ?_)
              clear hK K
              refine norm_ (a' := ?_) ?_ ?_
              rotate_left
              ·show Act.put _ (some 4) _ = _
               simp only [Act.put, zA, zB, zC, i64_w, i32_w]
               rfl
              exact norm_ (by first | (simp only [putAll, Act.put, zA, zB, zC]; done) | (simp only [putAll, Act.put, zA, zB, zC]; rfl)) (hJ1_25 (gb304) _ ⟨(by (with_reducible repeat (first | refine zH ?_ _ | refine zI ?_ | refine zG ?_ _)); exact BK298.out), (by (with_reducible repeat (first | refine zH ?_ _ | refine zI ?_ | refine zG ?_ _)); exact BK304.out), GW304.out, GE304.out, NB298_304.out, NB304_298.out, (by repeat (first | (with_reducible first | exact HB.out | apply zF | apply zD | apply zE | refine zJ ?_ GE298.out | refine zJ ?_ GE304.out) | exact HB.out))⟩)
           ·skip
            rintro gb304 w43 ⟨h0_, h1_, h2_, h3_, h4_, h5_, h6_⟩
            have n0_ : Aside0 (w43.heap[gb298]? = some (.cells #[.int .i64 0, .int .i64 0, .int .i64 0, .int .i64 0, .int .i64 0, .int .i64 0, .int .i64 0, .int .i64 0, .int .i64 0] 48 (0, 0))) := ⟨h0_⟩
            have n1_ : Aside0 (w43.heap[gb304]? = some (.cells #[.int .i64 0, .int .i64 0, .int .i64 0, .int .i64 0, .int .i64 0, .int .i64 0, .int .i64 0, .int .i64 0, .int .i64 0] 48 (0, 0))) := ⟨h1_⟩
            have n2_ : Aside0 (w.heap.size ≤ gb304) := ⟨h2_⟩
            have n3_ : Aside0 (w.heap.size ≤ gb304) := ⟨h3_⟩
            have n4_ : Aside0 (gb298 ≠ gb304) := ⟨h4_⟩
            have n5_ : Aside0 (gb304 ≠ gb298) := ⟨h5_⟩
            have n6_ : Aside0 (Below w.heap.size w w43) := ⟨h6_⟩
            clear BK298
            clear HB
            clear h0_ h1_ h2_ h3_ h4_ h5_ h6_
            have BK298 := n0_
            have BK304 := n1_
            have GW304 := n2_
            have GE304 := n3_
            have NB298_304 := n4_
            have NB304_298 := n5_
            have HB := n6_
            clear n0_ n1_ n2_ n3_ n4_ n5_ n6_
            have hHeld := trivial
            refine norm_ (a' := ?_) ?_ ?_
            rotate_left
            ·simp only [putAll, Act.put, zA, zB, zC]
             rfl
            refine one_ (i := 3) (N := some 12) #[true, true, true, true, true, true, true, true, true, false, true, true, true, true, true, true, true, true, true, true, true, false, true, false, false, true, false] rfl rfl (one_of HT_.out (by kernel_rfl)) (by decide) (fun K hK => ?_)
            refine goes_ Try.func50 (by kernel_rfl) rfl #[.string a0, .int .i64 6] (by rfl) rfl rfl (by (try simp only [zO, zP, zQ]); first | done | rfl | (simp only [zS, zR]; rfl)) ?_
            with_reducible refine (ref23_number.calls a0 6 t300 _ A4.out).mono ?_
            rintro e w' ⟨rfl, ⟨nd, rfl⟩⟩
            refine ⟨_, rfl, ?_⟩
            refine hK.out _ _ trivial (fun hHeld => ?_)
            clear hK K
            refine norm_ (a' := ?_) ?_ ?_
            rotate_left
            ·show Act.put _ (some 12) _ = _
             simp only [Act.put, zA, zB, zC, i64_w, i32_w]
             rfl
            exact norm_ (by first | (simp only [putAll, Act.put, zA, zB, zC]; done) | (simp only [putAll, Act.put, zA, zB, zC]; rfl)) (hJ1_3_25 (gb304) _ ⟨(by (with_reducible repeat (first | refine zH ?_ _ | refine zI ?_ | refine zG ?_ _)); exact BK298.out), (by (with_reducible repeat (first | refine zH ?_ _ | refine zI ?_ | refine zG ?_ _)); exact BK304.out), GW304.out, GE304.out, NB298_304.out, NB304_298.out, (by repeat (first | (with_reducible first | exact HB.out | apply zF | apply zD | apply zE | refine zJ ?_ GE298.out | refine zJ ?_ GE304.out) | exact HB.out))⟩)
          ·skip
           rintro _ w42 ⟨h0_, h1_⟩
           have n0_ : Aside0 (w42.heap[gb298]? = some (.cells #[.int .i64 0, .int .i64 0, .int .i64 0, .int .i64 0, .int .i64 0, .int .i64 0, .int .i64 0, .int .i64 0, .int .i64 0] 48 (0, 0))) := ⟨h0_⟩
           have n1_ : Aside0 (Below w.heap.size w w42) := ⟨h1_⟩
           clear BK298
           clear HB
           clear h0_ h1_
           have BK298 := n0_
           have HB := n1_
           clear n0_ n1_
           have hHeld := trivial
           refine norm_ (a' := ?_) ?_ ?_
           rotate_left
           ·simp only [putAll, Act.put, zA, zB, zC]
            rfl
           refine two_ (i := 9) (j := 25) (Ni := some 18) (Nj := some 4) #[true, true, true, true, true, true, true, true, true, true, true, true, true, true, true, true, true, true, true, true, true, false, true, false, false, false, false] #[true, true, true, true, true, true, true, true, true, false, true, true, true, true, true, true, true, true, true, true, true, false, true, false, false, true, false] rfl rfl rfl rfl (two_of HT_.out (by kernel_rfl)) (by decide) (by decide) (fun K hK => ?_) (fun K hK => ?_)
           ·skip
            refine goes_ Try.func51 (by kernel_rfl) rfl #[.int .u8 (bt a0 13)] (by rfl) rfl rfl (by (try simp only [zO, zP, zQ]); first | done | rfl | (simp only [zS, zR]; rfl)) ?_
            with_reducible refine (ref23_less.calls (bt a0 13) t301 _ A9.out).mono ?_
            rintro e w' ⟨rfl, ⟨nd, rfl⟩⟩
            refine ⟨_, rfl, ?_⟩
            refine hK.out _ _ trivial (fun hHeld => ?_)
            clear hK K
            refine norm_ (a' := ?_) ?_ ?_
            rotate_left
            ·show Act.put _ (some 18) _ = _
             simp only [Act.put, zA, zB, zC, i64_w, i32_w]
             rfl
            exact norm_ (by first | (simp only [putAll, Act.put, zA, zB, zC]; done) | (simp only [putAll, Act.put, zA, zB, zC]; rfl)) (hJ1_3_9 () _ ⟨(by (with_reducible repeat (first | refine zH ?_ _ | refine zI ?_ | refine zG ?_ _)); exact BK298.out), (by repeat (first | (with_reducible first | exact HB.out | apply zF | apply zD | apply zE | refine zJ ?_ GE298.out) | exact HB.out))⟩)
           ·skip
            refine box_step ?hg (N := 4) ?hd (cs := #[.int .i64 0, .int .i64 0, .int .i64 0, .int .i64 0, .int .i64 0, .int .i64 0, .int .i64 0, .int .i64 0, .int .i64 0]) (t := 48) ?hr ?_; (case hd => rfl); (case hg => rfl); (case hr => first | (go_simp; done) | (go_simp; rfl))
            intro gb304 hg w43 hbox hb
            have n0_ := Aside0.mk (blk_below (g := gb298) (o := .cells #[.int .i64 0, .int .i64 0, .int .i64 0, .int .i64 0, .int .i64 0, .int .i64 0, .int .i64 0, .int .i64 0, .int .i64 0] 48 (0, 0)) (by (with_reducible repeat (first | refine zH ?_ _ | refine zI ?_ | refine zG ?_ _)); exact BK298.out) hb)
            have n1_ := Aside0.mk (zU (by repeat (first | (with_reducible first | exact HB.out | apply zF | apply zD | apply zE | refine zJ ?_ GE298.out) | exact HB.out)) hb)
            have n2_ := Aside0.mk (hbox)
            have n3_ := Aside0.mk ((by rw [hg]; exact (zT (by repeat (first | (with_reducible first | exact HB.out | apply zF | apply zD | apply zE | refine zJ ?_ GE298.out) | exact HB.out))) : w.heap.size ≤ gb304))
            have n4_ := Aside0.mk ((by rw [hg]; exact (zT (by repeat (first | (with_reducible first | exact HB.out | apply zF | apply zD | apply zE | refine zJ ?_ GE298.out) | exact HB.out))) : w.heap.size ≤ gb304))
            have n5_ := Aside0.mk ((by rw [hg]; exact Nat.ne_of_lt (blk_lt (g := gb298) (o := .cells #[.int .i64 0, .int .i64 0, .int .i64 0, .int .i64 0, .int .i64 0, .int .i64 0, .int .i64 0, .int .i64 0, .int .i64 0] 48 (0, 0)) (by (with_reducible repeat (first | refine zH ?_ _ | refine zI ?_ | refine zG ?_ _)); exact BK298.out)) : gb298 ≠ gb304))
            have n6_ := Aside0.mk ((by rw [hg]; exact Nat.ne_of_gt (blk_lt (g := gb298) (o := .cells #[.int .i64 0, .int .i64 0, .int .i64 0, .int .i64 0, .int .i64 0, .int .i64 0, .int .i64 0, .int .i64 0, .int .i64 0] 48 (0, 0)) (by (with_reducible repeat (first | refine zH ?_ _ | refine zI ?_ | refine zG ?_ _)); exact BK298.out)) : gb304 ≠ gb298))
            clear BK298
            clear HB
            have BK298 := n0_
            have HB := n1_
            have BK304 := n2_
            have GW304 := n3_
            have GE304 := n4_
            have NB298_304 := n5_
            have NB304_298 := n6_
            clear n0_ n1_ n2_ n3_ n4_ n5_ n6_
            clear hb hbox hg
            refine hK.out _ _ trivial (fun hHeld => ?_)
            clear hK K
            refine norm_ (a' := ?_) ?_ ?_
            rotate_left
            ·show Act.put _ (some 4) _ = _
             simp only [Act.put, zA, zB, zC, i64_w, i32_w]
             rfl
            exact norm_ (by first | (simp only [putAll, Act.put, zA, zB, zC]; done) | (simp only [putAll, Act.put, zA, zB, zC]; rfl)) (hJ1_3_25 (gb304) _ ⟨(by (with_reducible repeat (first | refine zH ?_ _ | refine zI ?_ | refine zG ?_ _)); exact BK298.out), (by (with_reducible repeat (first | refine zH ?_ _ | refine zI ?_ | refine zG ?_ _)); exact BK304.out), GW304.out, GE304.out, NB298_304.out, NB304_298.out, (by repeat (first | (with_reducible first | exact HB.out | apply zF | apply zD | apply zE | refine zJ ?_ GE298.out | refine zJ ?_ GE304.out) | exact HB.out))⟩)
         ·skip
          rintro gb304 w43 ⟨h0_, h1_, h2_, h3_, h4_, h5_, h6_⟩
          have n0_ : Aside0 (w43.heap[gb298]? = some (.cells #[.int .i64 0, .int .i64 0, .int .i64 0, .int .i64 0, .int .i64 0, .int .i64 0, .int .i64 0, .int .i64 0, .int .i64 0] 48 (0, 0))) := ⟨h0_⟩
          have n1_ : Aside0 (w43.heap[gb304]? = some (.cells #[.int .i64 0, .int .i64 0, .int .i64 0, .int .i64 0, .int .i64 0, .int .i64 0, .int .i64 0, .int .i64 0, .int .i64 0] 48 (0, 0))) := ⟨h1_⟩
          have n2_ : Aside0 (w.heap.size ≤ gb304) := ⟨h2_⟩
          have n3_ : Aside0 (w.heap.size ≤ gb304) := ⟨h3_⟩
          have n4_ : Aside0 (gb298 ≠ gb304) := ⟨h4_⟩
          have n5_ : Aside0 (gb304 ≠ gb298) := ⟨h5_⟩
          have n6_ : Aside0 (Below w.heap.size w w43) := ⟨h6_⟩
          clear BK298
          clear HB
          clear h0_ h1_ h2_ h3_ h4_ h5_ h6_
          have BK298 := n0_
          have BK304 := n1_
          have GW304 := n2_
          have GE304 := n3_
          have NB298_304 := n4_
          have NB304_298 := n5_
          have HB := n6_
          clear n0_ n1_ n2_ n3_ n4_ n5_ n6_
          have hHeld := trivial
          refine norm_ (a' := ?_) ?_ ?_
          rotate_left
          ·simp only [putAll, Act.put, zA, zB, zC]
           rfl
          refine one_ (i := 9) (N := some 18) #[true, true, true, true, true, true, true, true, true, true, true, true, true, true, true, true, true, true, true, true, true, false, true, false, false, true, false] rfl rfl (one_of HT_.out (by kernel_rfl)) (by decide) (fun K hK => ?_)
          refine goes_ Try.func51 (by kernel_rfl) rfl #[.int .u8 (bt a0 13)] (by rfl) rfl rfl (by (try simp only [zO, zP, zQ]); first | done | rfl | (simp only [zS, zR]; rfl)) ?_
          with_reducible refine (ref23_less.calls (bt a0 13) t301 _ A9.out).mono ?_
          rintro e w' ⟨rfl, ⟨nd, rfl⟩⟩
          refine ⟨_, rfl, ?_⟩
          refine hK.out _ _ trivial (fun hHeld => ?_)
          clear hK K
          refine norm_ (a' := ?_) ?_ ?_
          rotate_left
          ·show Act.put _ (some 18) _ = _
           simp only [Act.put, zA, zB, zC, i64_w, i32_w]
           rfl
          exact norm_ (by first | (simp only [putAll, Act.put, zA, zB, zC]; done) | (simp only [putAll, Act.put, zA, zB, zC]; rfl)) (hJ1_3_9_25 (gb304) _ ⟨(by (with_reducible repeat (first | refine zH ?_ _ | refine zI ?_ | refine zG ?_ _)); exact BK298.out), (by (with_reducible repeat (first | refine zH ?_ _ | refine zI ?_ | refine zG ?_ _)); exact BK304.out), GW304.out, GE304.out, NB298_304.out, NB304_298.out, (by repeat (first | (with_reducible first | exact HB.out | apply zF | apply zD | apply zE | refine zJ ?_ GE298.out | refine zJ ?_ GE304.out) | exact HB.out))⟩)
        ·skip
         rintro _ w42 ⟨h0_, h1_⟩
         have n0_ : Aside0 (w42.heap[gb298]? = some (.cells #[.int .i64 0, .int .i64 0, .int .i64 0, .int .i64 0, .int .i64 0, .int .i64 0, .int .i64 0, .int .i64 0, .int .i64 0] 48 (0, 0))) := ⟨h0_⟩
         have n1_ : Aside0 (Below w.heap.size w w42) := ⟨h1_⟩
         clear BK298
         clear HB
         clear h0_ h1_
         have BK298 := n0_
         have HB := n1_
         clear n0_ n1_
         have hHeld := trivial
         refine norm_ (a' := ?_) ?_ ?_
         rotate_left
         ·simp only [putAll, Act.put, zA, zB, zC]
          rfl
         refine two_ (i := 21) (j := 25) (Ni := some 30) (Nj := some 4) #[true, true, true, true, true, true, true, true, true, true, true, true, true, true, true, true, true, true, true, true, true, true, true, false, false, false, false] #[true, true, true, true, true, true, true, true, true, true, true, true, true, true, true, true, true, true, true, true, true, false, true, false, false, true, false] rfl rfl rfl rfl (two_of HT_.out (by kernel_rfl)) (by decide) (by decide) (fun K hK => ?_) (fun K hK => ?_)
         ·skip
          refine goes_ Try.func51 (by kernel_rfl) rfl #[.int .u8 (bt a0 17)] (by rfl) rfl rfl (by (try simp only [zO, zP, zQ]); first | done | rfl | (simp only [zS, zR]; rfl)) ?_
          with_reducible refine (ref23_less.calls (bt a0 17) t302 _ A18.out).mono ?_
          rintro e w' ⟨rfl, ⟨nd, rfl⟩⟩
          refine ⟨_, rfl, ?_⟩
          refine hK.out _ _ trivial (fun hHeld => ?_)
          clear hK K
          refine norm_ (a' := ?_) ?_ ?_
          rotate_left
          ·show Act.put _ (some 30) _ = _
           simp only [Act.put, zA, zB, zC, i64_w, i32_w]
           rfl
          exact norm_ (by first | (simp only [putAll, Act.put, zA, zB, zC]; done) | (simp only [putAll, Act.put, zA, zB, zC]; rfl)) (hJ1_3_9_21 () _ ⟨(by (with_reducible repeat (first | refine zH ?_ _ | refine zI ?_ | refine zG ?_ _)); exact BK298.out), (by repeat (first | (with_reducible first | exact HB.out | apply zF | apply zD | apply zE | refine zJ ?_ GE298.out) | exact HB.out))⟩)
         ·skip
          refine box_step ?hg (N := 4) ?hd (cs := #[.int .i64 0, .int .i64 0, .int .i64 0, .int .i64 0, .int .i64 0, .int .i64 0, .int .i64 0, .int .i64 0, .int .i64 0]) (t := 48) ?hr ?_; (case hd => rfl); (case hg => rfl); (case hr => first | (go_simp; done) | (go_simp; rfl))
          intro gb304 hg w43 hbox hb
          have n0_ := Aside0.mk (blk_below (g := gb298) (o := .cells #[.int .i64 0, .int .i64 0, .int .i64 0, .int .i64 0, .int .i64 0, .int .i64 0, .int .i64 0, .int .i64 0, .int .i64 0] 48 (0, 0)) (by (with_reducible repeat (first | refine zH ?_ _ | refine zI ?_ | refine zG ?_ _)); exact BK298.out) hb)
          have n1_ := Aside0.mk (zU (by repeat (first | (with_reducible first | exact HB.out | apply zF | apply zD | apply zE | refine zJ ?_ GE298.out) | exact HB.out)) hb)
          have n2_ := Aside0.mk (hbox)
          have n3_ := Aside0.mk ((by rw [hg]; exact (zT (by repeat (first | (with_reducible first | exact HB.out | apply zF | apply zD | apply zE | refine zJ ?_ GE298.out) | exact HB.out))) : w.heap.size ≤ gb304))
          have n4_ := Aside0.mk ((by rw [hg]; exact (zT (by repeat (first | (with_reducible first | exact HB.out | apply zF | apply zD | apply zE | refine zJ ?_ GE298.out) | exact HB.out))) : w.heap.size ≤ gb304))
          have n5_ := Aside0.mk ((by rw [hg]; exact Nat.ne_of_lt (blk_lt (g := gb298) (o := .cells #[.int .i64 0, .int .i64 0, .int .i64 0, .int .i64 0, .int .i64 0, .int .i64 0, .int .i64 0, .int .i64 0, .int .i64 0] 48 (0, 0)) (by (with_reducible repeat (first | refine zH ?_ _ | refine zI ?_ | refine zG ?_ _)); exact BK298.out)) : gb298 ≠ gb304))
          have n6_ := Aside0.mk ((by rw [hg]; exact Nat.ne_of_gt (blk_lt (g := gb298) (o := .cells #[.int .i64 0, .int .i64 0, .int .i64 0, .int .i64 0, .int .i64 0, .int .i64 0, .int .i64 0, .int .i64 0, .int .i64 0] 48 (0, 0)) (by (with_reducible repeat (first | refine zH ?_ _ | refine zI ?_ | refine zG ?_ _)); exact BK298.out)) : gb304 ≠ gb298))
          clear BK298
          clear HB
          have BK298 := n0_
          have HB := n1_
          have BK304 := n2_
          have GW304 := n3_
          have GE304 := n4_
          have NB298_304 := n5_
          have NB304_298 := n6_
          clear n0_ n1_ n2_ n3_ n4_ n5_ n6_
          clear hb hbox hg
          refine hK.out _ _ trivial (fun hHeld => ?_)
          clear hK K
          refine norm_ (a' := ?_) ?_ ?_
          rotate_left
          ·show Act.put _ (some 4) _ = _
           simp only [Act.put, zA, zB, zC, i64_w, i32_w]
           rfl
          exact norm_ (by first | (simp only [putAll, Act.put, zA, zB, zC]; done) | (simp only [putAll, Act.put, zA, zB, zC]; rfl)) (hJ1_3_9_25 (gb304) _ ⟨(by (with_reducible repeat (first | refine zH ?_ _ | refine zI ?_ | refine zG ?_ _)); exact BK298.out), (by (with_reducible repeat (first | refine zH ?_ _ | refine zI ?_ | refine zG ?_ _)); exact BK304.out), GW304.out, GE304.out, NB298_304.out, NB304_298.out, (by repeat (first | (with_reducible first | exact HB.out | apply zF | apply zD | apply zE | refine zJ ?_ GE298.out | refine zJ ?_ GE304.out) | exact HB.out))⟩)
       ·skip
        rintro gb304 w43 ⟨h0_, h1_, h2_, h3_, h4_, h5_, h6_⟩
        have n0_ : Aside0 (w43.heap[gb298]? = some (.cells #[.int .i64 0, .int .i64 0, .int .i64 0, .int .i64 0, .int .i64 0, .int .i64 0, .int .i64 0, .int .i64 0, .int .i64 0] 48 (0, 0))) := ⟨h0_⟩
        have n1_ : Aside0 (w43.heap[gb304]? = some (.cells #[.int .i64 0, .int .i64 0, .int .i64 0, .int .i64 0, .int .i64 0, .int .i64 0, .int .i64 0, .int .i64 0, .int .i64 0] 48 (0, 0))) := ⟨h1_⟩
        have n2_ : Aside0 (w.heap.size ≤ gb304) := ⟨h2_⟩
        have n3_ : Aside0 (w.heap.size ≤ gb304) := ⟨h3_⟩
        have n4_ : Aside0 (gb298 ≠ gb304) := ⟨h4_⟩
        have n5_ : Aside0 (gb304 ≠ gb298) := ⟨h5_⟩
        have n6_ : Aside0 (Below w.heap.size w w43) := ⟨h6_⟩
        clear BK298
        clear HB
        clear h0_ h1_ h2_ h3_ h4_ h5_ h6_
        have BK298 := n0_
        have BK304 := n1_
        have GW304 := n2_
        have GE304 := n3_
        have NB298_304 := n4_
        have NB304_298 := n5_
        have HB := n6_
        clear n0_ n1_ n2_ n3_ n4_ n5_ n6_
        have hHeld := trivial
        refine norm_ (a' := ?_) ?_ ?_
        rotate_left
        ·simp only [putAll, Act.put, zA, zB, zC]
         rfl
        refine one_ (i := 21) (N := some 30) #[true, true, true, true, true, true, true, true, true, true, true, true, true, true, true, true, true, true, true, true, true, true, true, false, false, true, false] rfl rfl (one_of HT_.out (by kernel_rfl)) (by decide) (fun K hK => ?_)
        refine goes_ Try.func51 (by kernel_rfl) rfl #[.int .u8 (bt a0 17)] (by rfl) rfl rfl (by (try simp only [zO, zP, zQ]); first | done | rfl | (simp only [zS, zR]; rfl)) ?_
        with_reducible refine (ref23_less.calls (bt a0 17) t302 _ A18.out).mono ?_
        rintro e w' ⟨rfl, ⟨nd, rfl⟩⟩
        refine ⟨_, rfl, ?_⟩
        refine hK.out _ _ trivial (fun hHeld => ?_)
        clear hK K
        refine norm_ (a' := ?_) ?_ ?_
        rotate_left
        ·show Act.put _ (some 30) _ = _
         simp only [Act.put, zA, zB, zC, i64_w, i32_w]
         rfl
        exact norm_ (by first | (simp only [putAll, Act.put, zA, zB, zC]; done) | (simp only [putAll, Act.put, zA, zB, zC]; rfl)) (hJ1_3_9_21_25 (gb304) _ ⟨(by (with_reducible repeat (first | refine zH ?_ _ | refine zI ?_ | refine zG ?_ _)); exact BK298.out), (by (with_reducible repeat (first | refine zH ?_ _ | refine zI ?_ | refine zG ?_ _)); exact BK304.out), GW304.out, GE304.out, NB298_304.out, NB304_298.out, (by repeat (first | (with_reducible first | exact HB.out | apply zF | apply zD | apply zE | refine zJ ?_ GE298.out | refine zJ ?_ GE304.out) | exact HB.out))⟩)
      ·skip
       rintro _ w42 ⟨h0_, h1_⟩
       have n0_ : Aside0 (w42.heap[gb298]? = some (.cells #[.int .i64 0, .int .i64 0, .int .i64 0, .int .i64 0, .int .i64 0, .int .i64 0, .int .i64 0, .int .i64 0, .int .i64 0] 48 (0, 0))) := ⟨h0_⟩
       have n1_ : Aside0 (Below w.heap.size w w42) := ⟨h1_⟩
       clear BK298
       clear HB
       clear h0_ h1_
       have BK298 := n0_
       have HB := n1_
       clear n0_ n1_
       have hHeld := trivial
       refine norm_ (a' := ?_) ?_ ?_
       rotate_left
       ·simp only [putAll, Act.put, zA, zB, zC]
        rfl
       refine two_ (i := 23) (j := 25) (Ni := some 32) (Nj := some 4) #[true, true, true, true, true, true, true, true, true, true, true, true, true, true, true, true, true, true, true, true, true, true, true, true, false, false, false] #[true, true, true, true, true, true, true, true, true, true, true, true, true, true, true, true, true, true, true, true, true, true, true, false, false, true, false] rfl rfl rfl rfl (two_of HT_.out (by kernel_rfl)) (by decide) (by decide) (fun K hK => ?_) (fun K hK => ?_)
       ·skip
        refine goes_ Try.func49 (by kernel_rfl) rfl #[.string a0, .int .i64 18] (by rfl) rfl rfl (by (try simp only [zO, zP, zQ]); first | done | rfl | (simp only [zS, zR]; rfl)) ?_
        with_reducible refine (ref01_At.calls a0 18 t303 _ A19.out).mono ?_
        rintro e w' ⟨rfl, ⟨nd, rfl⟩⟩
        refine ⟨_, rfl, ?_⟩
        refine hK.out _ _ trivial (fun hHeld => ?_)
        clear hK K
        refine norm_ (a' := ?_) ?_ ?_
        rotate_left
        ·show Act.put _ (some 32) _ = _
         simp only [Act.put, zA, zB, zC, i64_w, i32_w]
         rfl
        refine pure_ (i := 24) (N := some 33) (v := ?_) (a' := ?_) #[true, true, true, true, true, true, true, true, true, true, true, true, true, true, true, true, true, true, true, true, true, true, true, true, true, false, false] rfl rfl (any_of HT_.out (by kernel_rfl)) (fun _ _ _ h => h) (Or.inl ⟨by rfl, ?_⟩) ?_ ?_
        rotate_left
        ·intro w'
         go_simp
         with_reducible rfl
        rotate_left
        ·simp only [Act.put, zA, zB, zC, i64_w, i32_w]
         rfl
        exact norm_ (by first | (simp only [putAll, Act.put, zA, zB, zC]; done) | (simp only [putAll, Act.put, zA, zB, zC]; rfl)) (hJ1_3_9_21_23 () _ ⟨(by (with_reducible repeat (first | refine zH ?_ _ | refine zI ?_ | refine zG ?_ _)); exact BK298.out), (by repeat (first | (with_reducible first | exact HB.out | apply zF | apply zD | apply zE | refine zJ ?_ GE298.out) | exact HB.out))⟩)
       ·skip
        refine box_step ?hg (N := 4) ?hd (cs := #[.int .i64 0, .int .i64 0, .int .i64 0, .int .i64 0, .int .i64 0, .int .i64 0, .int .i64 0, .int .i64 0, .int .i64 0]) (t := 48) ?hr ?_; (case hd => rfl); (case hg => rfl); (case hr => first | (go_simp; done) | (go_simp; rfl))
        intro gb304 hg w43 hbox hb
        have n0_ := Aside0.mk (blk_below (g := gb298) (o := .cells #[.int .i64 0, .int .i64 0, .int .i64 0, .int .i64 0, .int .i64 0, .int .i64 0, .int .i64 0, .int .i64 0, .int .i64 0] 48 (0, 0)) (by (with_reducible repeat (first | refine zH ?_ _ | refine zI ?_ | refine zG ?_ _)); exact BK298.out) hb)
        have n1_ := Aside0.mk (zU (by repeat (first | (with_reducible first | exact HB.out | apply zF | apply zD | apply zE | refine zJ ?_ GE298.out) | exact HB.out)) hb)
        have n2_ := Aside0.mk (hbox)
        have n3_ := Aside0.mk ((by rw [hg]; exact (zT (by repeat (first | (with_reducible first | exact HB.out | apply zF | apply zD | apply zE | refine zJ ?_ GE298.out) | exact HB.out))) : w.heap.size ≤ gb304))
        have n4_ := Aside0.mk ((by rw [hg]; exact (zT (by repeat (first | (with_reducible first | exact HB.out | apply zF | apply zD | apply zE | refine zJ ?_ GE298.out) | exact HB.out))) : w.heap.size ≤ gb304))
        have n5_ := Aside0.mk ((by rw [hg]; exact Nat.ne_of_lt (blk_lt (g := gb298) (o := .cells #[.int .i64 0, .int .i64 0, .int .i64 0, .int .i64 0, .int .i64 0, .int .i64 0, .int .i64 0, .int .i64 0, .int .i64 0] 48 (0, 0)) (by (with_reducible repeat (first | refine zH ?_ _ | refine zI ?_ | refine zG ?_ _)); exact BK298.out)) : gb298 ≠ gb304))
        have n6_ := Aside0.mk ((by rw [hg]; exact Nat.ne_of_gt (blk_lt (g := gb298) (o := .cells #[.int .i64 0, .int .i64 0, .int .i64 0, .int .i64 0, .int .i64 0, .int .i64 0, .int .i64 0, .int .i64 0, .int .i64 0] 48 (0, 0)) (by (with_reducible repeat (first | refine zH ?_ _ | refine zI ?_ | refine zG ?_ _)); exact BK298.out)) : gb304 ≠ gb298))
        clear BK298
        clear HB
        have BK298 := n0_
        have HB := n1_
        have BK304 := n2_
        have GW304 := n3_
        have GE304 := n4_
        have NB298_304 := n5_
        have NB304_298 := n6_
        clear n0_ n1_ n2_ n3_ n4_ n5_ n6_
        clear hb hbox hg
        refine hK.out _ _ trivial (fun hHeld => ?_)
        clear hK K
        refine norm_ (a' := ?_) ?_ ?_
        rotate_left
        ·show Act.put _ (some 4) _ = _
         simp only [Act.put, zA, zB, zC, i64_w, i32_w]
         rfl
        exact norm_ (by first | (simp only [putAll, Act.put, zA, zB, zC]; done) | (simp only [putAll, Act.put, zA, zB, zC]; rfl)) (hJ1_3_9_21_25 (gb304) _ ⟨(by (with_reducible repeat (first | refine zH ?_ _ | refine zI ?_ | refine zG ?_ _)); exact BK298.out), (by (with_reducible repeat (first | refine zH ?_ _ | refine zI ?_ | refine zG ?_ _)); exact BK304.out), GW304.out, GE304.out, NB298_304.out, NB304_298.out, (by repeat (first | (with_reducible first | exact HB.out | apply zF | apply zD | apply zE | refine zJ ?_ GE298.out | refine zJ ?_ GE304.out) | exact HB.out))⟩)
     ·skip
      rintro gb304 w43 ⟨h0_, h1_, h2_, h3_, h4_, h5_, h6_⟩
      have n0_ : Aside0 (w43.heap[gb298]? = some (.cells #[.int .i64 0, .int .i64 0, .int .i64 0, .int .i64 0, .int .i64 0, .int .i64 0, .int .i64 0, .int .i64 0, .int .i64 0] 48 (0, 0))) := ⟨h0_⟩
      have n1_ : Aside0 (w43.heap[gb304]? = some (.cells #[.int .i64 0, .int .i64 0, .int .i64 0, .int .i64 0, .int .i64 0, .int .i64 0, .int .i64 0, .int .i64 0, .int .i64 0] 48 (0, 0))) := ⟨h1_⟩
      have n2_ : Aside0 (w.heap.size ≤ gb304) := ⟨h2_⟩
      have n3_ : Aside0 (w.heap.size ≤ gb304) := ⟨h3_⟩
      have n4_ : Aside0 (gb298 ≠ gb304) := ⟨h4_⟩
      have n5_ : Aside0 (gb304 ≠ gb298) := ⟨h5_⟩
      have n6_ : Aside0 (Below w.heap.size w w43) := ⟨h6_⟩
      clear BK298
      clear HB
      clear h0_ h1_ h2_ h3_ h4_ h5_ h6_
      have BK298 := n0_
      have BK304 := n1_
      have GW304 := n2_
      have GE304 := n3_
      have NB298_304 := n4_
      have NB304_298 := n5_
      have HB := n6_
      clear n0_ n1_ n2_ n3_ n4_ n5_ n6_
      have hHeld := trivial
      refine norm_ (a' := ?_) ?_ ?_
      rotate_left
      ·simp only [putAll, Act.put, zA, zB, zC]
       rfl
      refine one_ (i := 23) (N := some 32) #[true, true, true, true, true, true, true, true, true, true, true, true, true, true, true, true, true, true, true, true, true, true, true, true, false, true, false] rfl rfl (one_of HT_.out (by kernel_rfl)) (by decide) (fun K hK => ?_)
      refine goes_ Try.func49 (by kernel_rfl) rfl #[.string a0, .int .i64 18] (by rfl) rfl rfl (by (try simp only [zO, zP, zQ]); first | done | rfl | (simp only [zS, zR]; rfl)) ?_
      with_reducible refine (ref01_At.calls a0 18 t303 _ A19.out).mono ?_
      rintro e w' ⟨rfl, ⟨nd, rfl⟩⟩
      refine ⟨_, rfl, ?_⟩
      refine hK.out _ _ trivial (fun hHeld => ?_)
      clear hK K
      refine norm_ (a' := ?_) ?_ ?_
      rotate_left
      ·show Act.put _ (some 32) _ = _
       simp only [Act.put, zA, zB, zC, i64_w, i32_w]
       rfl
      refine pure_ (i := 24) (N := some 33) (v := ?_) (a' := ?_) #[true, true, true, true, true, true, true, true, true, true, true, true, true, true, true, true, true, true, true, true, true, true, true, true, true, true, false] rfl rfl (any_of HT_.out (by kernel_rfl)) (fun _ _ _ h => h) (Or.inl ⟨by rfl, ?_⟩) ?_ ?_
      rotate_left
      ·intro w'
       go_simp
       with_reducible rfl
      rotate_left
      ·simp only [Act.put, zA, zB, zC, i64_w, i32_w]
       rfl
      exact norm_ (by first | (simp only [putAll, Act.put, zA, zB, zC]; done) | (simp only [putAll, Act.put, zA, zB, zC]; rfl)) (hJ1_3_9_21_23_25 (gb304) _ ⟨(by (with_reducible repeat (first | refine zH ?_ _ | refine zI ?_ | refine zG ?_ _)); exact BK298.out), (by (with_reducible repeat (first | refine zH ?_ _ | refine zI ?_ | refine zG ?_ _)); exact BK304.out), GW304.out, GE304.out, NB298_304.out, NB304_298.out, (by repeat (first | (with_reducible first | exact HB.out | apply zF | apply zD | apply zE | refine zJ ?_ GE298.out | refine zJ ?_ GE304.out) | exact HB.out))⟩)
    ·skip
     rintro _ w42 ⟨h0_, h1_⟩
     have n0_ : Aside0 (w42.heap[gb298]? = some (.cells #[.int .i64 0, .int .i64 0, .int .i64 0, .int .i64 0, .int .i64 0, .int .i64 0, .int .i64 0, .int .i64 0, .int .i64 0] 48 (0, 0))) := ⟨h0_⟩
     have n1_ : Aside0 (Below w.heap.size w w42) := ⟨h1_⟩
     clear BK298
     clear HB
     clear h0_ h1_
     have BK298 := n0_
     have HB := n1_
     clear n0_ n1_
     have hHeld := trivial
     refine norm_ (a' := ?_) ?_ ?_
     rotate_left
     ·simp only [putAll, Act.put, zA, zB, zC]
      rfl
     refine one_ (i := 25) (N := some 4) #[true, true, true, true, true, true, true, true, true, true, true, true, true, true, true, true, true, true, true, true, true, true, true, true, true, true, false] rfl rfl (one_of HT_.out (by kernel_rfl)) (by decide) (fun K hK => ?_)
     refine box_step ?hg (N := 4) ?hd (cs := #[.int .i64 0, .int .i64 0, .int .i64 0, .int .i64 0, .int .i64 0, .int .i64 0, .int .i64 0, .int .i64 0, .int .i64 0]) (t := 48) ?hr ?_; (case hd => rfl); (case hg => rfl); (case hr => first | (go_simp; done) | (go_simp; rfl))
     intro gb304 hg w43 hbox hb
     have n0_ := Aside0.mk (blk_below (g := gb298) (o := .cells #[.int .i64 0, .int .i64 0, .int .i64 0, .int .i64 0, .int .i64 0, .int .i64 0, .int .i64 0, .int .i64 0, .int .i64 0] 48 (0, 0)) (by (with_reducible repeat (first | refine zH ?_ _ | refine zI ?_ | refine zG ?_ _)); exact BK298.out) hb)
     have n1_ := Aside0.mk (zU (by repeat (first | (with_reducible first | exact HB.out | apply zF | apply zD | apply zE | refine zJ ?_ GE298.out) | exact HB.out)) hb)
     have n2_ := Aside0.mk (hbox)
     have n3_ := Aside0.mk ((by rw [hg]; exact (zT (by repeat (first | (with_reducible first | exact HB.out | apply zF | apply zD | apply zE | refine zJ ?_ GE298.out) | exact HB.out))) : w.heap.size ≤ gb304))
     have n4_ := Aside0.mk ((by rw [hg]; exact (zT (by repeat (first | (with_reducible first | exact HB.out | apply zF | apply zD | apply zE | refine zJ ?_ GE298.out) | exact HB.out))) : w.heap.size ≤ gb304))
     have n5_ := Aside0.mk ((by rw [hg]; exact Nat.ne_of_lt (blk_lt (g := gb298) (o := .cells #[.int .i64 0, .int .i64 0, .int .i64 0, .int .i64 0, .int .i64 0, .int .i64 0, .int .i64 0, .int .i64 0, .int .i64 0] 48 (0, 0)) (by (with_reducible repeat (first | refine zH ?_ _ | refine zI ?_ | refine zG ?_ _)); exact BK298.out)) : gb298 ≠ gb304))
     have n6_ := Aside0.mk ((by rw [hg]; exact Nat.ne_of_gt (blk_lt (g := gb298) (o := .cells #[.int .i64 0, .int .i64 0, .int .i64 0, .int .i64 0, .int .i64 0, .int .i64 0, .int .i64 0, .int .i64 0, .int .i64 0] 48 (0, 0)) (by (with_reducible repeat (first | refine zH ?_ _ | refine zI ?_ | refine zG ?_ _)); exact BK298.out)) : gb304 ≠ gb298))
     clear BK298
     clear HB
     have BK298 := n0_
     have HB := n1_
     have BK304 := n2_
     have GW304 := n3_
     have GE304 := n4_
     have NB298_304 := n5_
     have NB304_298 := n6_
     clear n0_ n1_ n2_ n3_ n4_ n5_ n6_
     clear hb hbox hg
     refine hK.out _ _ trivial (fun hHeld => ?_)
     clear hK K
     refine norm_ (a' := ?_) ?_ ?_
     rotate_left
     ·show Act.put _ (some 4) _ = _
      simp only [Act.put, zA, zB, zC, i64_w, i32_w]
      rfl
     exact norm_ (by first | (simp only [putAll, Act.put, zA, zB, zC]; done) | (simp only [putAll, Act.put, zA, zB, zC]; rfl)) (hJ1_3_9_21_23_25 (gb304) _ ⟨(by (with_reducible repeat (first | refine zH ?_ _ | refine zI ?_ | refine zG ?_ _)); exact BK298.out), (by (with_reducible repeat (first | refine zH ?_ _ | refine zI ?_ | refine zG ?_ _)); exact BK304.out), GW304.out, GE304.out, NB298_304.out, NB304_298.out, (by repeat (first | (with_reducible first | exact HB.out | apply zF | apply zD | apply zE | refine zJ ?_ GE298.out | refine zJ ?_ GE304.out) | exact HB.out))⟩)
   rintro gb304 w43 ⟨h0_, h1_, h2_, h3_, h4_, h5_, h6_⟩
   have n0_ : Aside0 (w43.heap[gb298]? = some (.cells #[.int .i64 0, .int .i64 0, .int .i64 0, .int .i64 0, .int .i64 0, .int .i64 0, .int .i64 0, .int .i64 0, .int .i64 0] 48 (0, 0))) := ⟨h0_⟩
   have n1_ : Aside0 (w43.heap[gb304]? = some (.cells #[.int .i64 0, .int .i64 0, .int .i64 0, .int .i64 0, .int .i64 0, .int .i64 0, .int .i64 0, .int .i64 0, .int .i64 0] 48 (0, 0))) := ⟨h1_⟩
   have n2_ : Aside0 (w.heap.size ≤ gb304) := ⟨h2_⟩
   have n3_ : Aside0 (w.heap.size ≤ gb304) := ⟨h3_⟩
   have n4_ : Aside0 (gb298 ≠ gb304) := ⟨h4_⟩
   have n5_ : Aside0 (gb304 ≠ gb298) := ⟨h5_⟩
   have n6_ : Aside0 (Below w.heap.size w w43) := ⟨h6_⟩
   clear BK298
   clear HB
   clear h0_ h1_ h2_ h3_ h4_ h5_ h6_
   have BK298 := n0_
   have BK304 := n1_
   have GW304 := n2_
   have GE304 := n3_
   have NB298_304 := n4_
   have NB304_298 := n5_
   have HB := n6_
   clear n0_ n1_ n2_ n3_ n4_ n5_ n6_
   have hHeld := trivial
   refine norm_ (a' := ?_) ?_ ?_
   rotate_left
   ·simp only [putAll, Act.put, zA, zB, zC]
    rfl
   refine one_ (i := 26) (N := none) #[true, true, true, true, true, true, true, true, true, true, true, true, true, true, true, true, true, true, true, true, true, true, true, true, true, true, true] rfl rfl (one_of HT_.out (by kernel_rfl)) (by decide) (fun K hK => ?_)
   have hs44 : w43.cell? ⟨gb304, 0, none⟩ = some (.int .i64 0) := (zK BK304.out 0).trans rfl
   have hfs44 := zL BK304.out 0
   have hns44_0 := NB298_304.out
   have hms44_0 := NB304_298.out
   have hs45 : w43.cell? ⟨gb304, 1, none⟩ = some (.int .i64 0) := (zK BK304.out 1).trans rfl
   have hfs45 := zL BK304.out 1
   have hns45_0 := NB298_304.out
   have hms45_0 := NB304_298.out
   have hs46 : w43.cell? ⟨gb304, 2, none⟩ = some (.int .i64 0) := (zK BK304.out 2).trans rfl
   have hfs46 := zL BK304.out 2
   have hns46_0 := NB298_304.out
   have hms46_0 := NB304_298.out
   have hs47 : w43.cell? ⟨gb304, 3, none⟩ = some (.int .i64 0) := (zK BK304.out 3).trans rfl
   have hfs47 := zL BK304.out 3
   have hns47_0 := NB298_304.out
   have hms47_0 := NB304_298.out
   have hs48 : w43.cell? ⟨gb304, 4, none⟩ = some (.int .i64 0) := (zK BK304.out 4).trans rfl
   have hfs48 := zL BK304.out 4
   have hns48_0 := NB298_304.out
   have hms48_0 := NB304_298.out
   have hs49 : w43.cell? ⟨gb304, 5, none⟩ = some (.int .i64 0) := (zK BK304.out 5).trans rfl
   have hfs49 := zL BK304.out 5
   have hns49_0 := NB298_304.out
   have hms49_0 := NB304_298.out
   have hs50 : w43.cell? ⟨gb304, 6, none⟩ = some (.int .i64 0) := (zK BK304.out 6).trans rfl
   have hfs50 := zL BK304.out 6
   have hns50_0 := NB298_304.out
   have hms50_0 := NB304_298.out
   have hs51 : w43.cell? ⟨gb304, 7, none⟩ = some (.int .i64 0) := (zK BK304.out 7).trans rfl
   have hfs51 := zL BK304.out 7
   have hns51_0 := NB298_304.out
   have hms51_0 := NB304_298.out
   have hs52 : w43.cell? ⟨gb304, 8, none⟩ = some (.int .i64 0) := (zK BK304.out 8).trans rfl
   have hfs52 := zL BK304.out 8
   have hns52_0 := NB298_304.out
   have hms52_0 := NB304_298.out
   refine skip_ (w1 := ?_) (by rfl) rfl ?_ ?_
   rotate_left
   ·go_simp
    rfl
   refine hK.out _ _ trivial (fun hHeld => ?_)
   clear hK K
   refine done_ (done_of HT_.out (by kernel_rfl)) ?_
   have hnb53 := NB304_298.out
   have hnc53 := NB298_304.out
   have hcz54_0 : w43.cell? ⟨gb304, 0, none⟩ = some (.int .i64 0) := (zK BK304.out 0).trans rfl
   have hcz54_1 : w43.cell? ⟨gb304, 1, none⟩ = some (.int .i64 0) := (zK BK304.out 1).trans rfl
   have hcz54_2 : w43.cell? ⟨gb304, 2, none⟩ = some (.int .i64 0) := (zK BK304.out 2).trans rfl
   have hcz54_3 : w43.cell? ⟨gb304, 3, none⟩ = some (.int .i64 0) := (zK BK304.out 3).trans rfl
   have hcz54_4 : w43.cell? ⟨gb304, 4, none⟩ = some (.int .i64 0) := (zK BK304.out 4).trans rfl
   have hcz54_5 : w43.cell? ⟨gb304, 5, none⟩ = some (.int .i64 0) := (zK BK304.out 5).trans rfl
   have hcz54_6 : w43.cell? ⟨gb304, 6, none⟩ = some (.int .i64 0) := (zK BK304.out 6).trans rfl
   have hcz54_7 : w43.cell? ⟨gb304, 7, none⟩ = some (.int .i64 0) := (zK BK304.out 7).trans rfl
   have hcz54_8 : w43.cell? ⟨gb304, 8, none⟩ = some (.int .i64 0) := (zK BK304.out 8).trans rfl
   have hfz54_0 := zL BK304.out 0
   have hfz54_1 := zL BK304.out 1
   have hfz54_2 := zL BK304.out 2
   have hfz54_3 := zL BK304.out 3
   have hfz54_4 := zL BK304.out 4
   have hfz54_5 := zL BK304.out 5
   have hfz54_6 := zL BK304.out 6
   have hfz54_7 := zL BK304.out 7
   have hfz54_8 := zL BK304.out 8
   try go_wp2_with (first | ((with_reducible refine gate_callee (f := 31) rfl ?_); refine goesL_ (some 35) rfl rfl Try.func31 (by kernel_rfl) rfl #[.agg #[.int .i64 t299, .int .i64 t300, .int .i64 (wrap64 (bt a0 12)), .int .i64 t301, .int .i64 (wrap64 (bt a0 14)), .int .i64 (wrap64 (bt a0 15)), .int .i64 (wrap64 (bt a0 16)), .int .i64 t302, .int .i64 t303]] rfl (by (try simp only [zO, zP, zQ]); first | done | rfl | (simp only [zS, zR]; rfl)) ?_; (with_reducible refine (ref23_Right.calls t299 t300 (wrap64 (bt a0 12)) t301 (wrap64 (bt a0 14)) (wrap64 (bt a0 15)) (wrap64 (bt a0 16)) t302 t303 false _ A20.out).mono ?_); rintro e w55 ⟨rfl, hb⟩; refine ⟨_, rfl, ?_⟩; have n0_ := Aside0.mk (blk_below (g := gb298) (o := .cells #[.int .i64 0, .int .i64 0, .int .i64 0, .int .i64 0, .int .i64 0, .int .i64 0, .int .i64 0, .int .i64 0, .int .i64 0] 48 (0, 0)) (by (with_reducible repeat (first | refine zH ?_ _ | refine zI ?_ | refine zG ?_ _)); refine blk_far ?_ NB298_304.out _; (with_reducible repeat (first | refine zH ?_ _ | refine zI ?_ | refine zG ?_ _)); refine blk_far ?_ NB298_304.out _; (with_reducible repeat (first | refine zH ?_ _ | refine zI ?_ | refine zG ?_ _)); refine blk_far ?_ NB298_304.out _; (with_reducible repeat (first | refine zH ?_ _ | refine zI ?_ | refine zG ?_ _)); refine blk_far ?_ NB298_304.out _; (with_reducible repeat (first | refine zH ?_ _ | refine zI ?_ | refine zG ?_ _)); refine blk_far ?_ NB298_304.out _; (with_reducible repeat (first | refine zH ?_ _ | refine zI ?_ | refine zG ?_ _)); refine blk_far ?_ NB298_304.out _; (with_reducible repeat (first | refine zH ?_ _ | refine zI ?_ | refine zG ?_ _)); refine blk_far ?_ NB298_304.out _; (with_reducible repeat (first | refine zH ?_ _ | refine zI ?_ | refine zG ?_ _)); refine blk_far ?_ NB298_304.out _; (with_reducible repeat (first | refine zH ?_ _ | refine zI ?_ | refine zG ?_ _)); refine blk_far ?_ NB298_304.out _; (with_reducible repeat (first | refine zH ?_ _ | refine zI ?_ | refine zG ?_ _)); exact BK298.out) hb); have n1_ := Aside0.mk (blk_below (g := gb304) (o := .cells #[.int .i64 t299, .int .i64 t300, .int .i64 (wrap64 (bt a0 12)), .int .i64 t301, .int .i64 (wrap64 (bt a0 14)), .int .i64 (wrap64 (bt a0 15)), .int .i64 (wrap64 (bt a0 16)), .int .i64 t302, .int .i64 t303] 48 (0, 0)) (by (with_reducible repeat (first | refine zH ?_ _ | refine zI ?_ | refine zG ?_ _)); refine blk_put (cs := #[.int .i64 t299, .int .i64 t300, .int .i64 (wrap64 (bt a0 12)), .int .i64 t301, .int .i64 (wrap64 (bt a0 14)), .int .i64 (wrap64 (bt a0 15)), .int .i64 (wrap64 (bt a0 16)), .int .i64 t302, .int .i64 0]) ?_ 8 _ rfl; (with_reducible repeat (first | refine zH ?_ _ | refine zI ?_ | refine zG ?_ _)); refine blk_put (cs := #[.int .i64 t299, .int .i64 t300, .int .i64 (wrap64 (bt a0 12)), .int .i64 t301, .int .i64 (wrap64 (bt a0 14)), .int .i64 (wrap64 (bt a0 15)), .int .i64 (wrap64 (bt a0 16)), .int .i64 0, .int .i64 0]) ?_ 7 _ rfl; (with_reducible repeat (first | refine zH ?_ _ | refine zI ?_ | refine zG ?_ _)); refine blk_put (cs := #[.int .i64 t299, .int .i64 t300, .int .i64 (wrap64 (bt a0 12)), .int .i64 t301, .int .i64 (wrap64 (bt a0 14)), .int .i64 (wrap64 (bt a0 15)), .int .i64 0, .int .i64 0, .int .i64 0]) ?_ 6 _ rfl; (with_reducible repeat (first | refine zH ?_ _ | refine zI ?_ | refine zG ?_ _)); refine blk_put (cs := #[.int .i64 t299, .int .i64 t300, .int .i64 (wrap64 (bt a0 12)), .int .i64 t301, .int .i64 (wrap64 (bt a0 14)), .int .i64 0, .int .i64 0, .int .i64 0, .int .i64 0]) ?_ 5 _ rfl; (with_reducible repeat (first | refine zH ?_ _ | refine zI ?_ | refine zG ?_ _)); refine blk_put (cs := #[.int .i64 t299, .int .i64 t300, .int .i64 (wrap64 (bt a0 12)), .int .i64 t301, .int .i64 0, .int .i64 0, .int .i64 0, .int .i64 0, .int .i64 0]) ?_ 4 _ rfl; (with_reducible repeat (first | refine zH ?_ _ | refine zI ?_ | refine zG ?_ _)); refine blk_put (cs := #[.int .i64 t299, .int .i64 t300, .int .i64 (wrap64 (bt a0 12)), .int .i64 0, .int .i64 0, .int .i64 0, .int .i64 0, .int .i64 0, .int .i64 0]) ?_ 3 _ rfl; (with_reducible repeat (first | refine zH ?_ _ | refine zI ?_ | refine zG ?_ _)); refine blk_put (cs := #[.int .i64 t299, .int .i64 t300, .int .i64 0, .int .i64 0, .int .i64 0, .int .i64 0, .int .i64 0, .int .i64 0, .int .i64 0]) ?_ 2 _ rfl; (with_reducible repeat (first | refine zH ?_ _ | refine zI ?_ | refine zG ?_ _)); refine blk_put (cs := #[.int .i64 t299, .int .i64 0, .int .i64 0, .int .i64 0, .int .i64 0, .int .i64 0, .int .i64 0, .int .i64 0, .int .i64 0]) ?_ 1 _ rfl; (with_reducible repeat (first | refine zH ?_ _ | refine zI ?_ | refine zG ?_ _)); refine blk_put (cs := #[.int .i64 0, .int .i64 0, .int .i64 0, .int .i64 0, .int .i64 0, .int .i64 0, .int .i64 0, .int .i64 0, .int .i64 0]) ?_ 0 _ rfl; (with_reducible repeat (first | refine zH ?_ _ | refine zI ?_ | refine zG ?_ _)); exact BK304.out) hb); have n2_ := Aside0.mk (zU (by repeat (first | (with_reducible first | exact HB.out | apply zF | apply zD | apply zE | refine zJ ?_ GE298.out | refine zJ ?_ GE304.out) | exact HB.out)) hb); clear BK298; clear BK304; clear HB; have BK298 := n0_; have BK304 := n1_; have HB := n2_; clear n0_ n1_ n2_; (try clear hb); (try clear hb2); (try clear hk); (try clear hi); have hcz56_0 : w55.cell? ⟨gb298, 0, none⟩ = some (.int .i64 0) := (zK BK298.out 0).trans rfl; have hcz56_1 : w55.cell? ⟨gb298, 1, none⟩ = some (.int .i64 0) := (zK BK298.out 1).trans rfl; have hcz56_2 : w55.cell? ⟨gb298, 2, none⟩ = some (.int .i64 0) := (zK BK298.out 2).trans rfl; have hcz56_3 : w55.cell? ⟨gb298, 3, none⟩ = some (.int .i64 0) := (zK BK298.out 3).trans rfl; have hcz56_4 : w55.cell? ⟨gb298, 4, none⟩ = some (.int .i64 0) := (zK BK298.out 4).trans rfl; have hcz56_5 : w55.cell? ⟨gb298, 5, none⟩ = some (.int .i64 0) := (zK BK298.out 5).trans rfl; have hcz56_6 : w55.cell? ⟨gb298, 6, none⟩ = some (.int .i64 0) := (zK BK298.out 6).trans rfl; have hcz56_7 : w55.cell? ⟨gb298, 7, none⟩ = some (.int .i64 0) := (zK BK298.out 7).trans rfl; have hcz56_8 : w55.cell? ⟨gb298, 8, none⟩ = some (.int .i64 0) := (zK BK298.out 8).trans rfl; have hfz56_0 := zL BK298.out 0; have hfz56_1 := zL BK298.out 1; have hfz56_2 := zL BK298.out 2; have hfz56_3 := zL BK298.out 3; have hfz56_4 := zL BK298.out 4; have hfz56_5 := zL BK298.out 5; have hfz56_6 := zL BK298.out 6; have hfz56_7 := zL BK298.out 7; have hfz56_8 := zL BK298.out 8))
   refine bodyPost_ret (results_ct rfl _ _ gb298 48 #[.int .i64 0, .int .i64 0, .int .i64 0, .int .i64 0, .int .i64 0, .int .i64 0, .int .i64 0, .int .i64 0, .int .i64 0] (0, 0) _ rfl (by (with_reducible repeat (first | refine zH ?_ _ | refine zI ?_ | refine zG ?_ _)); refine blk_put (cs := #[.int .i64 0, .int .i64 0, .int .i64 0, .int .i64 0, .int .i64 0, .int .i64 0, .int .i64 0, .int .i64 0, .int .i64 0]) ?_ 8 _ rfl; (with_reducible repeat (first | refine zH ?_ _ | refine zI ?_ | refine zG ?_ _)); refine blk_put (cs := #[.int .i64 0, .int .i64 0, .int .i64 0, .int .i64 0, .int .i64 0, .int .i64 0, .int .i64 0, .int .i64 0, .int .i64 0]) ?_ 7 _ rfl; (with_reducible repeat (first | refine zH ?_ _ | refine zI ?_ | refine zG ?_ _)); refine blk_put (cs := #[.int .i64 0, .int .i64 0, .int .i64 0, .int .i64 0, .int .i64 0, .int .i64 0, .int .i64 0, .int .i64 0, .int .i64 0]) ?_ 6 _ rfl; (with_reducible repeat (first | refine zH ?_ _ | refine zI ?_ | refine zG ?_ _)); refine blk_put (cs := #[.int .i64 0, .int .i64 0, .int .i64 0, .int .i64 0, .int .i64 0, .int .i64 0, .int .i64 0, .int .i64 0, .int .i64 0]) ?_ 5 _ rfl; (with_reducible repeat (first | refine zH ?_ _ | refine zI ?_ | refine zG ?_ _)); refine blk_put (cs := #[.int .i64 0, .int .i64 0, .int .i64 0, .int .i64 0, .int .i64 0, .int .i64 0, .int .i64 0, .int .i64 0, .int .i64 0]) ?_ 4 _ rfl; (with_reducible repeat (first | refine zH ?_ _ | refine zI ?_ | refine zG ?_ _)); refine blk_put (cs := #[.int .i64 0, .int .i64 0, .int .i64 0, .int .i64 0, .int .i64 0, .int .i64 0, .int .i64 0, .int .i64 0, .int .i64 0]) ?_ 3 _ rfl; (with_reducible repeat (first | refine zH ?_ _ | refine zI ?_ | refine zG ?_ _)); refine blk_put (cs := #[.int .i64 0, .int .i64 0, .int .i64 0, .int .i64 0, .int .i64 0, .int .i64 0, .int .i64 0, .int .i64 0, .int .i64 0]) ?_ 2 _ rfl; (with_reducible repeat (first | refine zH ?_ _ | refine zI ?_ | refine zG ?_ _)); refine blk_put (cs := #[.int .i64 0, .int .i64 0, .int .i64 0, .int .i64 0, .int .i64 0, .int .i64 0, .int .i64 0, .int .i64 0, .int .i64 0]) ?_ 1 _ rfl; (with_reducible repeat (first | refine zH ?_ _ | refine zI ?_ | refine zG ?_ _)); refine blk_put (cs := #[.int .i64 0, .int .i64 0, .int .i64 0, .int .i64 0, .int .i64 0, .int .i64 0, .int .i64 0, .int .i64 0, .int .i64 0]) ?_ 0 _ rfl; (with_reducible repeat (first | refine zH ?_ _ | refine zI ?_ | refine zG ?_ _)); exact BK298.out) Try.underlying48 rfl (by kernel_rfl)) rfl ?_
   exact ⟨by first | rfl | (simp [errW_none, errW_some] <;> rfl) | (simp [*, errW_none, errW_some] <;> rfl), by repeat (first | (with_reducible first | exact HB.out | apply zF | apply zD | apply zE | refine zJ ?_ GE298.out | refine zJ ?_ GE304.out) | exact HB.out)⟩
 ·rw [if_neg c2] at H
  have c2b0 : ((a0.size : Int) == 20) = false := beq_eq_false_iff_ne.mpr c2
  have c2b1 : ((a0.size : Int) != 20) = true := bne_iff_ne.mpr c2
  simp only [Option.some.injEq, Prod.mk.injEq] at H
  obtain ⟨rfl, rfl, rfl, rfl, rfl, rfl, rfl, rfl, rfl, rfl⟩ := H
  go_enter Try.func42, Try.ntmps42
  go_wp2_with (first | ((with_reducible refine gate_dst (N := 2) rfl ?_); refine box_event ?hg (N := 2) ?hd (cs := #[.int .i64 0, .int .i64 0, .int .i64 0, .int .i64 0, .int .i64 0, .int .i64 0, .int .i64 0, .int .i64 0, .int .i64 0]) (t := 48) ?hr ?_; (case hd => rfl); (case hg => rfl); (case hr => first | (go_simp; done) | (go_simp; rfl)); intro gb298 hg w57 hbox hb; have n0_ := Aside0.mk (zU (by repeat (first | (with_reducible first | exact HB.out | apply zF | apply zD | apply zE) | exact HB.out)) hb); have n1_ := Aside0.mk (hbox); have n2_ := Aside0.mk ((by rw [hg]; exact (zT (by repeat (first | (with_reducible first | exact HB.out | apply zF | apply zD | apply zE) | exact HB.out))) : w.heap.size ≤ gb298)); have n3_ := Aside0.mk ((by rw [hg]; exact (zT (by repeat (first | (with_reducible first | exact HB.out | apply zF | apply zD | apply zE) | exact HB.out))) : w.heap.size ≤ gb298)); clear HB; have HB := n0_; have BK298 := n1_; have GW298 := n2_; have GE298 := n3_; clear n0_ n1_ n2_ n3_; clear hb hbox hg; have hcz58_0 : w57.cell? ⟨gb298, 0, none⟩ = some (.int .i64 0) := (zK BK298.out 0).trans rfl; have hcz58_1 : w57.cell? ⟨gb298, 1, none⟩ = some (.int .i64 0) := (zK BK298.out 1).trans rfl; have hcz58_2 : w57.cell? ⟨gb298, 2, none⟩ = some (.int .i64 0) := (zK BK298.out 2).trans rfl; have hcz58_3 : w57.cell? ⟨gb298, 3, none⟩ = some (.int .i64 0) := (zK BK298.out 3).trans rfl; have hcz58_4 : w57.cell? ⟨gb298, 4, none⟩ = some (.int .i64 0) := (zK BK298.out 4).trans rfl; have hcz58_5 : w57.cell? ⟨gb298, 5, none⟩ = some (.int .i64 0) := (zK BK298.out 5).trans rfl; have hcz58_6 : w57.cell? ⟨gb298, 6, none⟩ = some (.int .i64 0) := (zK BK298.out 6).trans rfl; have hcz58_7 : w57.cell? ⟨gb298, 7, none⟩ = some (.int .i64 0) := (zK BK298.out 7).trans rfl; have hcz58_8 : w57.cell? ⟨gb298, 8, none⟩ = some (.int .i64 0) := (zK BK298.out 8).trans rfl; have hfz58_0 := zL BK298.out 0; have hfz58_1 := zL BK298.out 1; have hfz58_2 := zL BK298.out 2; have hfz58_3 := zL BK298.out 3; have hfz58_4 := zL BK298.out 4; have hfz58_5 := zL BK298.out 5; have hfz58_6 := zL BK298.out 6; have hfz58_7 := zL BK298.out 7; have hfz58_8 := zL BK298.out 8))
  refine bodyPost_ret (results_ct rfl _ _ gb298 48 #[.int .i64 0, .int .i64 0, .int .i64 0, .int .i64 0, .int .i64 0, .int .i64 0, .int .i64 0, .int .i64 0, .int .i64 0] (0, 0) _ rfl (by (with_reducible repeat (first | refine zH ?_ _ | refine zI ?_ | refine zG ?_ _)); refine blk_put (cs := #[.int .i64 0, .int .i64 0, .int .i64 0, .int .i64 0, .int .i64 0, .int .i64 0, .int .i64 0, .int .i64 0, .int .i64 0]) ?_ 8 _ rfl; (with_reducible repeat (first | refine zH ?_ _ | refine zI ?_ | refine zG ?_ _)); refine blk_put (cs := #[.int .i64 0, .int .i64 0, .int .i64 0, .int .i64 0, .int .i64 0, .int .i64 0, .int .i64 0, .int .i64 0, .int .i64 0]) ?_ 7 _ rfl; (with_reducible repeat (first | refine zH ?_ _ | refine zI ?_ | refine zG ?_ _)); refine blk_put (cs := #[.int .i64 0, .int .i64 0, .int .i64 0, .int .i64 0, .int .i64 0, .int .i64 0, .int .i64 0, .int .i64 0, .int .i64 0]) ?_ 6 _ rfl; (with_reducible repeat (first | refine zH ?_ _ | refine zI ?_ | refine zG ?_ _)); refine blk_put (cs := #[.int .i64 0, .int .i64 0, .int .i64 0, .int .i64 0, .int .i64 0, .int .i64 0, .int .i64 0, .int .i64 0, .int .i64 0]) ?_ 5 _ rfl; (with_reducible repeat (first | refine zH ?_ _ | refine zI ?_ | refine zG ?_ _)); refine blk_put (cs := #[.int .i64 0, .int .i64 0, .int .i64 0, .int .i64 0, .int .i64 0, .int .i64 0, .int .i64 0, .int .i64 0, .int .i64 0]) ?_ 4 _ rfl; (with_reducible repeat (first | refine zH ?_ _ | refine zI ?_ | refine zG ?_ _)); refine blk_put (cs := #[.int .i64 0, .int .i64 0, .int .i64 0, .int .i64 0, .int .i64 0, .int .i64 0, .int .i64 0, .int .i64 0, .int .i64 0]) ?_ 3 _ rfl; (with_reducible repeat (first | refine zH ?_ _ | refine zI ?_ | refine zG ?_ _)); refine blk_put (cs := #[.int .i64 0, .int .i64 0, .int .i64 0, .int .i64 0, .int .i64 0, .int .i64 0, .int .i64 0, .int .i64 0, .int .i64 0]) ?_ 2 _ rfl; (with_reducible repeat (first | refine zH ?_ _ | refine zI ?_ | refine zG ?_ _)); refine blk_put (cs := #[.int .i64 0, .int .i64 0, .int .i64 0, .int .i64 0, .int .i64 0, .int .i64 0, .int .i64 0, .int .i64 0, .int .i64 0]) ?_ 1 _ rfl; (with_reducible repeat (first | refine zH ?_ _ | refine zI ?_ | refine zG ?_ _)); refine blk_put (cs := #[.int .i64 0, .int .i64 0, .int .i64 0, .int .i64 0, .int .i64 0, .int .i64 0, .int .i64 0, .int .i64 0, .int .i64 0]) ?_ 0 _ rfl; (with_reducible repeat (first | refine zH ?_ _ | refine zI ?_ | refine zG ?_ _)); exact BK298.out) Try.underlying48 rfl (by kernel_rfl)) rfl ?_
  exact ⟨by first | rfl | (simp [errW_none, errW_some] <;> rfl) | (simp [*, errW_none, errW_some] <;> rfl), by repeat (first | (with_reducible first | exact HB.out | apply zF | apply zD | apply zE | refine zJ ?_ GE298.out) | exact HB.out)⟩

end Go.Proofs.Ytfapfpkijeaapaa.P

-- Written by a program of this session (wip/mkprint.py). Not trusted: Lean checks it.
import Derived.Test.YtfapfpkijeaapaaP0
import Derived.Test.YtfapfpkijeaapaaP7
namespace Go.Proofs.Ytfapfpkijeaapaa.P
open Go.RowKit Go.Proofs.YtfapfpkijeaapaaW.PrintWords Go.Proofs.YtfapfpkijeaapaaW.PrintLast Go.Proofs.YtfapfpkijeaapaaW.PrintMore
attribute [local go_sem] max2_int min2_int max_two min_two max_three min_three max_four min_four   -- for this text's walks alone
set_option linter.unusedVariables false
set_option linter.unusedSimpArgs false

/-! ### ref23_Put: function 19 -/
def ref23_Put.f (a0_0 : Int) (a0_1 : Int) (a0_2 : Int) (a0_3 : Int) (a0_4 : Int) (a0_5 : Int) (a0_6 : Int) (a0_7 : Int) (a0_8 : Int) : Option (ByteArray × Bool) := (ref23_Right.f a0_0 a0_1 a0_2 a0_3 a0_4 a0_5 a0_6 a0_7 a0_8).bind fun t155 => (if t155 = true then ((ref23_six.f a0_0).bind fun t156 => ((ref23_six.f a0_1).bind fun t157 => (if t156.size + t157.size ≤ 9223372036854775807 then ((some (([(a0_2) % 256, (a0_3) % 256, (a0_4) % 256, (a0_5) % 256, (a0_6) % 256, (a0_7) % 256] : List Int) : List Int)).bind fun y158 => (if t156.size + t157.size + ((strOfNums y158).size) ≤ 9223372036854775807 then ((ref01_Of.f a0_8).bind fun t161 => (if t156.size + t157.size + ((strOfNums y158).size) + t161.size ≤ 9223372036854775807 then (some (((t156 ++ t157) ++ (strOfNums y158)) ++ t161, true)) else (none))) else (none))) else (none)))) else (some ((⟨#[]⟩ : ByteArray), false)))
def ref23_Put.T3 : Bool × List (List Nat × List Nat) := (true, [([], []), ([0], [0]), ([1], [1]), ([], []), ([3], [3]), ([4, 2], [4]), ([2, 5], [2, 5]), ([], []), ([7], [7]), ([8], [8]), ([], []), ([10], [10]), ([11], [11]), ([], []), ([13], [13]), ([14], [14]), ([], []), ([16], [16]), ([17], [17]), ([], []), ([19], [19]), ([20], [20]), ([], []), ([22], [22]), ([23], [23]), ([9, 12, 15, 18, 21, 24], [9, 12, 15, 18, 21, 24]), ([25], [25]), ([6, 26], [6, 26]), ([], []), ([28], [28]), ([29, 5], [29]), ([27, 30], [27, 30]), ([31, 30, 0, 1, 2, 3, 4, 5, 6, 7, 8, 9, 10, 11, 12, 13, 14, 15, 16, 17, 18, 19, 20, 21, 22, 23, 24, 25, 26, 27, 28, 29, 30, 31], [31]), ([32, 0, 1, 2, 3, 4, 5, 6, 7, 8, 9, 10, 11, 12, 13, 14, 15, 16, 17, 18, 19, 20, 21, 22, 23, 24, 25, 26, 27, 28, 29, 30, 31, 32], [])])
def ref23_Put.B3 : List Nat := [0, 1, 3, 0, 8, 31, 63, 0, 128, 384, 0, 1024, 3072, 0, 8192, 24576, 0, 65536, 196608, 0, 524288, 1572864, 0, 4194304, 12582912, 33554304, 67108736, 134217727, 0, 268435456, 805306431, 2147483647, 4294967295, 8589934591]
theorem ref23_Put.tab3 : rtab .any (opsOf Try.f19 3) = ref23_Put.T3 := by kernel_rfl
theorem ref23_Put.bits3 : waitsOk ref23_Put.T3.2 ref23_Put.B3 = true := by kernel_rfl
set_option maxHeartbeats 8000000 in
set_option maxRecDepth 100000 in
theorem ref23_Put.calls (a0_0 : Int) (a0_1 : Int) (a0_2 : Int) (a0_3 : Int) (a0_4 : Int) (a0_5 : Int) (a0_6 : Int) (a0_7 : Int) (a0_8 : Int) (r1 : ByteArray) (r2 : Bool) (w : World) (h : ref23_Put.f a0_0 a0_1 a0_2 a0_3 a0_4 a0_5 a0_6 a0_7 a0_8 = some (r1, r2)) :
 Calls Try.prog 19 #[.agg #[.int .i64 a0_0, .int .i64 a0_1, .int .i64 a0_2, .int .i64 a0_3, .int .i64 a0_4, .int .i64 a0_5, .int .i64 a0_6, .int .i64 a0_7, .int .i64 a0_8]] w fun e w' => e = .returned (.tuple #[.string r1, .bool r2]) ∧ Below w.heap.size w w' := by
 have hu48 := Try.underlying48
 have HB := Aside0.mk (Below.refl w.heap.size w)
 have H : ((ref23_Right.f a0_0 a0_1 a0_2 a0_3 a0_4 a0_5 a0_6 a0_7 a0_8).bind fun t155 => (if t155 = true then ((ref23_six.f a0_0).bind fun t156 => ((ref23_six.f a0_1).bind fun t157 => (if t156.size + t157.size ≤ 9223372036854775807 then ((some (([(a0_2) % 256, (a0_3) % 256, (a0_4) % 256, (a0_5) % 256, (a0_6) % 256, (a0_7) % 256] : List Int) : List Int)).bind fun y158 => (if t156.size + t157.size + ((strOfNums y158).size) ≤ 9223372036854775807 then ((ref01_Of.f a0_8).bind fun t161 => (if t156.size + t157.size + ((strOfNums y158).size) + t161.size ≤ 9223372036854775807 then (some (((t156 ++ t157) ++ (strOfNums y158)) ++ t161, true)) else (none))) else (none))) else (none)))) else (some ((⟨#[]⟩ : ByteArray), false)))) = some (r1, r2) := h
 clear h
 replace H := Option.bind_eq_some_iff.mp H
 obtain ⟨t155, A20, H⟩ := H
 replace H : (if t155 = true then ((ref23_six.f a0_0).bind fun t156 => ((ref23_six.f a0_1).bind fun t157 => (if t156.size + t157.size ≤ 9223372036854775807 then ((some (([(a0_2) % 256, (a0_3) % 256, (a0_4) % 256, (a0_5) % 256, (a0_6) % 256, (a0_7) % 256] : List Int) : List Int)).bind fun y158 => (if t156.size + t157.size + ((strOfNums y158).size) ≤ 9223372036854775807 then ((ref01_Of.f a0_8).bind fun t161 => (if t156.size + t157.size + ((strOfNums y158).size) + t161.size ≤ 9223372036854775807 then (some (((t156 ++ t157) ++ (strOfNums y158)) ++ t161, true)) else (none))) else (none))) else (none)))) else (some ((⟨#[]⟩ : ByteArray), false))) = some (r1, r2) := H
 have A2 := Aside0.mk A20
 clear A20
 by_cases c3 : t155 = true
 ·subst c3
  have H1 : ((ref23_six.f a0_0).bind fun t156 => ((ref23_six.f a0_1).bind fun t157 => (if t156.size + t157.size ≤ 9223372036854775807 then ((some (([(a0_2) % 256, (a0_3) % 256, (a0_4) % 256, (a0_5) % 256, (a0_6) % 256, (a0_7) % 256] : List Int) : List Int)).bind fun y158 => (if t156.size + t157.size + ((strOfNums y158).size) ≤ 9223372036854775807 then ((ref01_Of.f a0_8).bind fun t161 => (if t156.size + t157.size + ((strOfNums y158).size) + t161.size ≤ 9223372036854775807 then (some (((t156 ++ t157) ++ (strOfNums y158)) ++ t161, true)) else (none))) else (none))) else (none)))) = some (r1, r2) := by rw [if_pos rfl] at H; exact H
  clear H
  have H := H1
  clear H1
  replace H := Option.bind_eq_some_iff.mp H
  obtain ⟨t156, A40, H⟩ := H
  replace H : ((ref23_six.f a0_1).bind fun t157 => (if t156.size + t157.size ≤ 9223372036854775807 then ((some (([(a0_2) % 256, (a0_3) % 256, (a0_4) % 256, (a0_5) % 256, (a0_6) % 256, (a0_7) % 256] : List Int) : List Int)).bind fun y158 => (if t156.size + t157.size + ((strOfNums y158).size) ≤ 9223372036854775807 then ((ref01_Of.f a0_8).bind fun t161 => (if t156.size + t157.size + ((strOfNums y158).size) + t161.size ≤ 9223372036854775807 then (some (((t156 ++ t157) ++ (strOfNums y158)) ++ t161, true)) else (none))) else (none))) else (none))) = some (r1, r2) := H
  have A4 := Aside0.mk A40
  clear A40
  replace H := Option.bind_eq_some_iff.mp H
  obtain ⟨t157, A50, H⟩ := H
  replace H : (if t156.size + t157.size ≤ 9223372036854775807 then ((some (([(a0_2) % 256, (a0_3) % 256, (a0_4) % 256, (a0_5) % 256, (a0_6) % 256, (a0_7) % 256] : List Int) : List Int)).bind fun y158 => (if t156.size + t157.size + ((strOfNums y158).size) ≤ 9223372036854775807 then ((ref01_Of.f a0_8).bind fun t161 => (if t156.size + t157.size + ((strOfNums y158).size) + t161.size ≤ 9223372036854775807 then (some (((t156 ++ t157) ++ (strOfNums y158)) ++ t161, true)) else (none))) else (none))) else (none)) = some (r1, r2) := H
  have A5 := Aside0.mk A50
  clear A50
  by_cases c6 : t156.size + t157.size ≤ 9223372036854775807
  rotate_left
  ·rw [if_neg c6] at H
   exact absurd H (by simp)
  rw [if_pos c6] at H
  have c6b0 := eq_true c6
  have c6b1 : decide (t156.size + t157.size ≤ 9223372036854775807) = true := zW c6
  try have c6b2 : (9223372036854775807 < t156.size + t157.size) = False := eq_false (Nat.not_lt.2 c6)
  obtain ⟨y158, hy158⟩ : ∃ y_ : List Int, y_ = (([(a0_2) % 256, (a0_3) % 256, (a0_4) % 256, (a0_5) % 256, (a0_6) % 256, (a0_7) % 256] : List Int)) := ⟨_, rfl⟩
  replace H : (if t156.size + t157.size + ((strOfNums y158).size) ≤ 9223372036854775807 then ((ref01_Of.f a0_8).bind fun t161 => (if t156.size + t157.size + ((strOfNums y158).size) + t161.size ≤ 9223372036854775807 then (some (((t156 ++ t157) ++ (strOfNums y158)) ++ t161, true)) else (none))) else (none)) = some (r1, r2) := by first | (rw [hy158]; with_reducible exact H) | (have H2_ := (Option.bind_some _ _).symm.trans H; rw [hy158]; with_reducible exact H2_) | (have H2_ := (Option.bind_some _ _).symm.trans H; with_reducible exact H2_) | with_reducible exact H | (rw [hy158]; exact H) | exact H
  have Ny158 := Aside0.mk hy158
  clear hy158
  by_cases c7 : t156.size + t157.size + ((strOfNums y158).size) ≤ 9223372036854775807
  rotate_left
  ·rw [if_neg c7] at H
   exact absurd H (by simp)
  rw [if_pos c7] at H
  have c7b0 := eq_true c7
  have c7b1 : decide (t156.size + t157.size + ((strOfNums y158).size) ≤ 9223372036854775807) = true := zW c7
  try have c7b2 : (9223372036854775807 < t156.size + t157.size + ((strOfNums y158).size)) = False := eq_false (Nat.not_lt.2 c7)
  replace H := Option.bind_eq_some_iff.mp H
  obtain ⟨t161, A80, H⟩ := H
  replace H : (if t156.size + t157.size + ((strOfNums y158).size) + t161.size ≤ 9223372036854775807 then (some (((t156 ++ t157) ++ (strOfNums y158)) ++ t161, true)) else (none)) = some (r1, r2) := H
  have A8 := Aside0.mk A80
  clear A80
  by_cases c9 : t156.size + t157.size + ((strOfNums y158).size) + t161.size ≤ 9223372036854775807
  rotate_left
  ·rw [if_neg c9] at H
   exact absurd H (by simp)
  rw [if_pos c9] at H
  have c9b0 := eq_true c9
  have c9b1 : decide (t156.size + t157.size + ((strOfNums y158).size) + t161.size ≤ 9223372036854775807) = true := zW c9
  try have c9b2 : (9223372036854775807 < t156.size + t157.size + ((strOfNums y158).size) + t161.size) = False := eq_false (Nat.not_lt.2 c9)
  simp only [Option.some.injEq, Prod.mk.injEq] at H
  obtain ⟨rfl, rfl⟩ := H
  go_enter Try.func19, Try.ntmps19
  try go_wp2_with (first | ((with_reducible refine gate_dst (N := 1) rfl ?_); refine box_event ?hg (N := 1) ?hd (cs := #[.int .i64 a0_0, .int .i64 a0_1, .int .i64 a0_2, .int .i64 a0_3, .int .i64 a0_4, .int .i64 a0_5, .int .i64 a0_6, .int .i64 a0_7, .int .i64 a0_8]) (t := 48) ?hr ?_; (case hd => rfl); (case hg => rfl); (case hr => first | (go_simp; done) | (go_simp; rfl)); intro gb154 hg w10 hbox hb; have n0_ := Aside0.mk (zU (by repeat (first | (with_reducible first | exact HB.out | apply zF | apply zD | apply zE) | exact HB.out)) hb); have n1_ := Aside0.mk (hbox); have n2_ := Aside0.mk ((by rw [hg]; exact (zT (by repeat (first | (with_reducible first | exact HB.out | apply zF | apply zD | apply zE) | exact HB.out))) : w.heap.size ≤ gb154)); have n3_ := Aside0.mk ((by rw [hg]; exact (zT (by repeat (first | (with_reducible first | exact HB.out | apply zF | apply zD | apply zE) | exact HB.out))) : w.heap.size ≤ gb154)); clear HB; have HB := n0_; have BK154 := n1_; have GW154 := n2_; have GE154 := n3_; clear n0_ n1_ n2_ n3_; clear hb hbox hg; have hcz11_0 : w10.cell? ⟨gb154, 0, none⟩ = some (.int .i64 a0_0) := (zK BK154.out 0).trans rfl; have hcz11_1 : w10.cell? ⟨gb154, 1, none⟩ = some (.int .i64 a0_1) := (zK BK154.out 1).trans rfl; have hcz11_2 : w10.cell? ⟨gb154, 2, none⟩ = some (.int .i64 a0_2) := (zK BK154.out 2).trans rfl; have hcz11_3 : w10.cell? ⟨gb154, 3, none⟩ = some (.int .i64 a0_3) := (zK BK154.out 3).trans rfl; have hcz11_4 : w10.cell? ⟨gb154, 4, none⟩ = some (.int .i64 a0_4) := (zK BK154.out 4).trans rfl; have hcz11_5 : w10.cell? ⟨gb154, 5, none⟩ = some (.int .i64 a0_5) := (zK BK154.out 5).trans rfl; have hcz11_6 : w10.cell? ⟨gb154, 6, none⟩ = some (.int .i64 a0_6) := (zK BK154.out 6).trans rfl; have hcz11_7 : w10.cell? ⟨gb154, 7, none⟩ = some (.int .i64 a0_7) := (zK BK154.out 7).trans rfl; have hcz11_8 : w10.cell? ⟨gb154, 8, none⟩ = some (.int .i64 a0_8) := (zK BK154.out 8).trans rfl; have hfz11_0 := zL BK154.out 0; have hfz11_1 := zL BK154.out 1; have hfz11_2 := zL BK154.out 2; have hfz11_3 := zL BK154.out 3; have hfz11_4 := zL BK154.out 4; have hfz11_5 := zL BK154.out 5; have hfz11_6 := zL BK154.out 6; have hfz11_7 := zL BK154.out 7; have hfz11_8 := zL BK154.out 8) | ((with_reducible refine gate_callee (f := 31) rfl ?_); refine goesL_ (some 5) rfl rfl Try.func31 (by kernel_rfl) rfl #[.agg #[.int .i64 a0_0, .int .i64 a0_1, .int .i64 a0_2, .int .i64 a0_3, .int .i64 a0_4, .int .i64 a0_5, .int .i64 a0_6, .int .i64 a0_7, .int .i64 a0_8]] rfl (by (try simp only [zO, zP, zQ]); first | done | rfl | (simp only [zS, zR]; rfl)) ?_; (with_reducible refine (ref23_Right.calls a0_0 a0_1 a0_2 a0_3 a0_4 a0_5 a0_6 a0_7 a0_8 true _ A2.out).mono ?_); rintro e w12 ⟨rfl, hb⟩; refine ⟨_, rfl, ?_⟩; have n0_ := Aside0.mk (blk_below (g := gb154) (o := .cells #[.int .i64 a0_0, .int .i64 a0_1, .int .i64 a0_2, .int .i64 a0_3, .int .i64 a0_4, .int .i64 a0_5, .int .i64 a0_6, .int .i64 a0_7, .int .i64 a0_8] 48 (0, 0)) (by (with_reducible repeat (first | refine zH ?_ _ | refine zI ?_ | refine zG ?_ _)); exact BK154.out) hb); have n1_ := Aside0.mk (zU (by repeat (first | (with_reducible first | exact HB.out | apply zF | apply zD | apply zE | refine zJ ?_ GE154.out) | exact HB.out)) hb); clear BK154; clear HB; have BK154 := n0_; have HB := n1_; clear n0_ n1_; (try clear hb); (try clear hb2); (try clear hk); (try clear hi)))
  have n0_ := Aside0.mk (zI BK154.out)
  have n1_ := Aside0.mk (zE HB.out)
  clear BK154
  clear HB
  have BK154 := n0_
  have HB := n1_
  clear n0_ n1_
  refine start_ (n := 34) (S := fun w' => w'.cell? ⟨gb154, 0, none⟩ = some (.int .i64 a0_0) ∧ w'.cell? ⟨gb154, 1, none⟩ = some (.int .i64 a0_1) ∧ w'.cell? ⟨gb154, 2, none⟩ = some (.int .i64 a0_2) ∧ w'.cell? ⟨gb154, 3, none⟩ = some (.int .i64 a0_3) ∧ w'.cell? ⟨gb154, 4, none⟩ = some (.int .i64 a0_4) ∧ w'.cell? ⟨gb154, 5, none⟩ = some (.int .i64 a0_5) ∧ w'.cell? ⟨gb154, 6, none⟩ = some (.int .i64 a0_6) ∧ w'.cell? ⟨gb154, 7, none⟩ = some (.int .i64 a0_7) ∧ w'.cell? ⟨gb154, 8, none⟩ = some (.int .i64 a0_8)) (ds := []) #[false, false, false, false, false, false, false, false, false, false, false, false, false, false, false, false, false, false, false, false, false, false, false, false, false, false, false, false, false, false, false, false, false, false] (by kernel_rfl) rfl rfl ⟨(zK BK154.out 0).trans rfl, (zK BK154.out 1).trans rfl, (zK BK154.out 2).trans rfl, (zK BK154.out 3).trans rfl, (zK BK154.out 4).trans rfl, (zK BK154.out 5).trans rfl, (zK BK154.out 6).trans rfl, (zK BK154.out 7).trans rfl, (zK BK154.out 8).trans rfl⟩ (fun hHeld => ?_); refine with_tabW ref23_Put.tab3 ref23_Put.bits3 (fun HT_ HW_ => ?_)
  generalize w12.drew = w13 at BK154 HB hHeld ⊢
  refine pure_ (i := 0) (N := some 7) (v := ?_) (a' := ?_) #[true, false, false, false, false, false, false, false, false, false, false, false, false, false, false, false, false, false, false, false, false, false, false, false, false, false, false, false, false, false, false, false, false, false] rfl rfl (any_of HT_.out (by kernel_rfl)) (fun _ _ _ h => h) (Or.inl ⟨by rfl, ?_⟩) ?_ ?_
  rotate_left
  ·intro w'
   go_simp
   with_reducible rfl
  rotate_left
  ·simp only [Act.put, zA, zB, zC, i64_w, i32_w]
   rfl
  refine pure_ (i := 3) (N := some 10) (v := ?_) (a' := ?_) #[true, false, false, true, false, false, false, false, false, false, false, false, false, false, false, false, false, false, false, false, false, false, false, false, false, false, false, false, false, false, false, false, false, false] rfl rfl (any_of HT_.out (by kernel_rfl)) (fun _ _ _ h => h) (Or.inl ⟨by rfl, ?_⟩) ?_ ?_
  rotate_left
  ·intro w'
   go_simp
   with_reducible rfl
  rotate_left
  ·simp only [Act.put, zA, zB, zC, i64_w, i32_w]
   rfl
  refine pure_ (i := 7) (N := some 14) (v := ?_) (a' := ?_) #[true, false, false, true, false, false, false, true, false, false, false, false, false, false, false, false, false, false, false, false, false, false, false, false, false, false, false, false, false, false, false, false, false, false] rfl rfl (any_of HT_.out (by kernel_rfl)) (fun _ _ _ h => h) (Or.inl ⟨by rfl, ?_⟩) ?_ ?_
  rotate_left
  ·intro w'
   go_simp
   with_reducible rfl
  rotate_left
  ·simp only [Act.put, zA, zB, zC, i64_w, i32_w]
   rfl
  refine pure_ (i := 10) (N := some 17) (v := ?_) (a' := ?_) #[true, false, false, true, false, false, false, true, false, false, true, false, false, false, false, false, false, false, false, false, false, false, false, false, false, false, false, false, false, false, false, false, false, false] rfl rfl (any_of HT_.out (by kernel_rfl)) (fun _ _ _ h => h) (Or.inl ⟨by rfl, ?_⟩) ?_ ?_
  rotate_left
  ·intro w'
   go_simp
   with_reducible rfl
  rotate_left
  ·simp only [Act.put, zA, zB, zC, i64_w, i32_w]
   rfl
  refine pure_ (i := 13) (N := some 20) (v := ?_) (a' := ?_) #[true, false, false, true, false, false, false, true, false, false, true, false, false, true, false, false, false, false, false, false, false, false, false, false, false, false, false, false, false, false, false, false, false, false] rfl rfl (any_of HT_.out (by kernel_rfl)) (fun _ _ _ h => h) (Or.inl ⟨by rfl, ?_⟩) ?_ ?_
  rotate_left
  ·intro w'
   go_simp
   with_reducible rfl
  rotate_left
  ·simp only [Act.put, zA, zB, zC, i64_w, i32_w]
   rfl
  refine pure_ (i := 16) (N := some 23) (v := ?_) (a' := ?_) #[true, false, false, true, false, false, false, true, false, false, true, false, false, true, false, false, true, false, false, false, false, false, false, false, false, false, false, false, false, false, false, false, false, false] rfl rfl (any_of HT_.out (by kernel_rfl)) (fun _ _ _ h => h) (Or.inl ⟨by rfl, ?_⟩) ?_ ?_
  rotate_left
  ·intro w'
   go_simp
   with_reducible rfl
  rotate_left
  ·simp only [Act.put, zA, zB, zC, i64_w, i32_w]
   rfl
  refine pure_ (i := 19) (N := some 26) (v := ?_) (a' := ?_) #[true, false, false, true, false, false, false, true, false, false, true, false, false, true, false, false, true, false, false, true, false, false, false, false, false, false, false, false, false, false, false, false, false, false] rfl rfl (any_of HT_.out (by kernel_rfl)) (fun _ _ _ h => h) (Or.inl ⟨by rfl, ?_⟩) ?_ ?_
  rotate_left
  ·intro w'
   go_simp
   with_reducible rfl
  rotate_left
  ·simp only [Act.put, zA, zB, zC, i64_w, i32_w]
   rfl
  refine pure_ (i := 22) (N := some 29) (v := ?_) (a' := ?_) #[true, false, false, true, false, false, false, true, false, false, true, false, false, true, false, false, true, false, false, true, false, false, true, false, false, false, false, false, false, false, false, false, false, false] rfl rfl (any_of HT_.out (by kernel_rfl)) (fun _ _ _ h => h) (Or.inl ⟨by rfl, ?_⟩) ?_ ?_
  rotate_left
  ·intro w'
   go_simp
   with_reducible rfl
  rotate_left
  ·simp only [Act.put, zA, zB, zC, i64_w, i32_w]
   rfl
  refine pure_ (i := 28) (N := some 35) (v := ?_) (a' := ?_) #[true, false, false, true, false, false, false, true, false, false, true, false, false, true, false, false, true, false, false, true, false, false, true, false, false, false, false, false, true, false, false, false, false, false] rfl rfl (any_of HT_.out (by kernel_rfl)) (fun _ _ _ h => h) (Or.inl ⟨by rfl, ?_⟩) ?_ ?_
  rotate_left
  ·intro w'
   go_simp
   with_reducible rfl
  rotate_left
  ·simp only [Act.put, zA, zB, zC, i64_w, i32_w]
   rfl
  refine take_ (i := 1) (N := some 8) (v := ?_) (a' := ?_) #[true, true, false, true, false, false, false, true, false, false, true, false, false, true, false, false, true, false, false, true, false, false, true, false, false, false, false, false, true, false, false, false, false, false] rfl rfl (take_ofW HT_.out HW_.out (by kernel_rfl)) (fun _ _ _ h => h) (Or.inl ⟨by rfl, ?_⟩) hHeld ?_ ?_
  rotate_left
  ·rintro w' ⟨s0, s1, s2, s3, s4, s5, s6, s7, s8⟩
   go_simp
   with_reducible rfl
  rotate_left
  ·simp only [Act.put, zA, zB, zC, i64_w, i32_w]
   rfl
  refine take_ (i := 4) (N := some 11) (v := ?_) (a' := ?_) #[true, true, false, true, true, false, false, true, false, false, true, false, false, true, false, false, true, false, false, true, false, false, true, false, false, false, false, false, true, false, false, false, false, false] rfl rfl (take_ofW HT_.out HW_.out (by kernel_rfl)) (fun _ _ _ h => h) (Or.inl ⟨by rfl, ?_⟩) hHeld ?_ ?_
  rotate_left
  ·rintro w' ⟨s0, s1, s2, s3, s4, s5, s6, s7, s8⟩
   go_simp
   with_reducible rfl
  rotate_left
  ·simp only [Act.put, zA, zB, zC, i64_w, i32_w]
   rfl
  refine take_ (i := 8) (N := some 15) (v := ?_) (a' := ?_) #[true, true, false, true, true, false, false, true, true, false, true, false, false, true, false, false, true, false, false, true, false, false, true, false, false, false, false, false, true, false, false, false, false, false] rfl rfl (take_ofW HT_.out HW_.out (by kernel_rfl)) (fun _ _ _ h => h) (Or.inl ⟨by rfl, ?_⟩) hHeld ?_ ?_
  rotate_left
  ·rintro w' ⟨s0, s1, s2, s3, s4, s5, s6, s7, s8⟩
   go_simp
   with_reducible rfl
  rotate_left
  ·simp only [Act.put, zA, zB, zC, i64_w, i32_w]
   rfl
  refine pure_ (i := 9) (N := some 16) (v := ?_) (a' := ?_) #[true, true, false, true, true, false, false, true, true, true, true, false, false, true, false, false, true, false, false, true, false, false, true, false, false, false, false, false, true, false, false, false, false, false] rfl rfl (any_of HT_.out (by kernel_rfl)) (fun _ _ _ h => h) (Or.inl ⟨by rfl, ?_⟩) ?_ ?_
  rotate_left
  ·intro w'
   go_simp
   with_reducible rfl
  rotate_left
  ·simp only [Act.put, zA, zB, zC, i64_w, i32_w]
   rfl
  refine take_ (i := 11) (N := some 18) (v := ?_) (a' := ?_) #[true, true, false, true, true, false, false, true, true, true, true, true, false, true, false, false, true, false, false, true, false, false, true, false, false, false, false, false, true, false, false, false, false, false] rfl rfl (take_ofW HT_.out HW_.out (by kernel_rfl)) (fun _ _ _ h => h) (Or.inl ⟨by rfl, ?_⟩) hHeld ?_ ?_
  rotate_left
  ·rintro w' ⟨s0, s1, s2, s3, s4, s5, s6, s7, s8⟩
   go_simp
   with_reducible rfl
  rotate_left
  ·simp only [Act.put, zA, zB, zC, i64_w, i32_w]
   rfl
  refine pure_ (i := 12) (N := some 19) (v := ?_) (a' := ?_) #[true, true, false, true, true, false, false, true, true, true, true, true, true, true, false, false, true, false, false, true, false, false, true, false, false, false, false, false, true, false, false, false, false, false] rfl rfl (any_of HT_.out (by kernel_rfl)) (fun _ _ _ h => h) (Or.inl ⟨by rfl, ?_⟩) ?_ ?_
  rotate_left
  ·intro w'
   go_simp
   with_reducible rfl
  rotate_left
  ·simp only [Act.put, zA, zB, zC, i64_w, i32_w]
   rfl
  refine take_ (i := 14) (N := some 21) (v := ?_) (a' := ?_) #[true, true, false, true, true, false, false, true, true, true, true, true, true, true, true, false, true, false, false, true, false, false, true, false, false, false, false, false, true, false, false, false, false, false] rfl rfl (take_ofW HT_.out HW_.out (by kernel_rfl)) (fun _ _ _ h => h) (Or.inl ⟨by rfl, ?_⟩) hHeld ?_ ?_
  rotate_left
  ·rintro w' ⟨s0, s1, s2, s3, s4, s5, s6, s7, s8⟩
   go_simp
   with_reducible rfl
  rotate_left
  ·simp only [Act.put, zA, zB, zC, i64_w, i32_w]
   rfl
  refine pure_ (i := 15) (N := some 22) (v := ?_) (a' := ?_) #[true, true, false, true, true, false, false, true, true, true, true, true, true, true, true, true, true, false, false, true, false, false, true, false, false, false, false, false, true, false, false, false, false, false] rfl rfl (any_of HT_.out (by kernel_rfl)) (fun _ _ _ h => h) (Or.inl ⟨by rfl, ?_⟩) ?_ ?_
  rotate_left
  ·intro w'
   go_simp
   with_reducible rfl
  rotate_left
  ·simp only [Act.put, zA, zB, zC, i64_w, i32_w]
   rfl
  refine take_ (i := 17) (N := some 24) (v := ?_) (a' := ?_) #[true, true, false, true, true, false, false, true, true, true, true, true, true, true, true, true, true, true, false, true, false, false, true, false, false, false, false, false, true, false, false, false, false, false] rfl rfl (take_ofW HT_.out HW_.out (by kernel_rfl)) (fun _ _ _ h => h) (Or.inl ⟨by rfl, ?_⟩) hHeld ?_ ?_
  rotate_left
  ·rintro w' ⟨s0, s1, s2, s3, s4, s5, s6, s7, s8⟩
   go_simp
   with_reducible rfl
  rotate_left
  ·simp only [Act.put, zA, zB, zC, i64_w, i32_w]
   rfl
  refine pure_ (i := 18) (N := some 25) (v := ?_) (a' := ?_) #[true, true, false, true, true, false, false, true, true, true, true, true, true, true, true, true, true, true, true, true, false, false, true, false, false, false, false, false, true, false, false, false, false, false] rfl rfl (any_of HT_.out (by kernel_rfl)) (fun _ _ _ h => h) (Or.inl ⟨by rfl, ?_⟩) ?_ ?_
  rotate_left
  ·intro w'
   go_simp
   with_reducible rfl
  rotate_left
  ·simp only [Act.put, zA, zB, zC, i64_w, i32_w]
   rfl
  refine take_ (i := 20) (N := some 27) (v := ?_) (a' := ?_) #[true, true, false, true, true, false, false, true, true, true, true, true, true, true, true, true, true, true, true, true, true, false, true, false, false, false, false, false, true, false, false, false, false, false] rfl rfl (take_ofW HT_.out HW_.out (by kernel_rfl)) (fun _ _ _ h => h) (Or.inl ⟨by rfl, ?_⟩) hHeld ?_ ?_
  rotate_left
  ·rintro w' ⟨s0, s1, s2, s3, s4, s5, s6, s7, s8⟩
   go_simp
   with_reducible rfl
  rotate_left
  ·simp only [Act.put, zA, zB, zC, i64_w, i32_w]
   rfl
  refine pure_ (i := 21) (N := some 28) (v := ?_) (a' := ?_) #[true, true, false, true, true, false, false, true, true, true, true, true, true, true, true, true, true, true, true, true, true, true, true, false, false, false, false, false, true, false, false, false, false, false] rfl rfl (any_of HT_.out (by kernel_rfl)) (fun _ _ _ h => h) (Or.inl ⟨by rfl, ?_⟩) ?_ ?_
  rotate_left
  ·intro w'
   go_simp
   with_reducible rfl
  rotate_left
  ·simp only [Act.put, zA, zB, zC, i64_w, i32_w]
   rfl
  refine take_ (i := 23) (N := some 30) (v := ?_) (a' := ?_) #[true, true, false, true, true, false, false, true, true, true, true, true, true, true, true, true, true, true, true, true, true, true, true, true, false, false, false, false, true, false, false, false, false, false] rfl rfl (take_ofW HT_.out HW_.out (by kernel_rfl)) (fun _ _ _ h => h) (Or.inl ⟨by rfl, ?_⟩) hHeld ?_ ?_
  rotate_left
  ·rintro w' ⟨s0, s1, s2, s3, s4, s5, s6, s7, s8⟩
   go_simp
   with_reducible rfl
  rotate_left
  ·simp only [Act.put, zA, zB, zC, i64_w, i32_w]
   rfl
  refine pure_ (i := 24) (N := some 31) (v := ?_) (a' := ?_) #[true, true, false, true, true, false, false, true, true, true, true, true, true, true, true, true, true, true, true, true, true, true, true, true, true, false, false, false, true, false, false, false, false, false] rfl rfl (any_of HT_.out (by kernel_rfl)) (fun _ _ _ h => h) (Or.inl ⟨by rfl, ?_⟩) ?_ ?_
  rotate_left
  ·intro w'
   go_simp
   with_reducible rfl
  rotate_left
  ·simp only [Act.put, zA, zB, zC, i64_w, i32_w]
   rfl
  refine take_ (i := 29) (N := some 36) (v := ?_) (a' := ?_) #[true, true, false, true, true, false, false, true, true, true, true, true, true, true, true, true, true, true, true, true, true, true, true, true, true, false, false, false, true, true, false, false, false, false] rfl rfl (take_ofW HT_.out HW_.out (by kernel_rfl)) (fun _ _ _ h => h) (Or.inl ⟨by rfl, ?_⟩) hHeld ?_ ?_
  rotate_left
  ·rintro w' ⟨s0, s1, s2, s3, s4, s5, s6, s7, s8⟩
   go_simp
   with_reducible rfl
  rotate_left
  ·simp only [Act.put, zA, zB, zC, i64_w, i32_w]
   rfl
  refine join_ (σ := Value) 3 #[true, true, true, true, true, true, true, true, true, true, true, true, true, true, true, true, true, true, true, true, true, true, true, true, true, true, true, true, true, true, true, false, false, false] (fun s_ => [(9, .string t156), (12, .string t157), (32, s_), (33, .string (strOfNums y158)), (37, .string t161), (13, .string (t156 ++ t157)), (34, .string ((t156 ++ t157) ++ (strOfNums y158)))]) (fun s_ w' => (w'.cell? ⟨gb154, 0, none⟩ = some (.int .i64 a0_0) ∧ w'.cell? ⟨gb154, 1, none⟩ = some (.int .i64 a0_1) ∧ w'.cell? ⟨gb154, 2, none⟩ = some (.int .i64 a0_2) ∧ w'.cell? ⟨gb154, 3, none⟩ = some (.int .i64 a0_3) ∧ w'.cell? ⟨gb154, 4, none⟩ = some (.int .i64 a0_4) ∧ w'.cell? ⟨gb154, 5, none⟩ = some (.int .i64 a0_5) ∧ w'.cell? ⟨gb154, 6, none⟩ = some (.int .i64 a0_6) ∧ w'.cell? ⟨gb154, 7, none⟩ = some (.int .i64 a0_7) ∧ w'.cell? ⟨gb154, 8, none⟩ = some (.int .i64 a0_8)) ∧ (Kd.R (Kd.int .u8) 5 w' w.heap.size (fun _ => True) s_ y158) ∧ (w'.heap[gb154]? = some (.cells #[.int .i64 a0_0, .int .i64 a0_1, .int .i64 a0_2, .int .i64 a0_3, .int .i64 a0_4, .int .i64 a0_5, .int .i64 a0_6, .int .i64 a0_7, .int .i64 a0_8] 48 (0, 0))) ∧ (Below w.heap.size w w')) ?_ ?_
  rotate_left
  ·intro hJ2_5_25_26_30
   refine join_ (σ := Value) 4 #[true, true, true, true, true, true, true, true, true, true, true, true, true, true, true, true, true, true, true, true, true, true, true, true, true, true, true, true, true, true, false, false, false, false] (fun s_ => [(9, .string t156), (12, .string t157), (32, s_), (33, .string (strOfNums y158)), (13, .string (t156 ++ t157)), (34, .string ((t156 ++ t157) ++ (strOfNums y158)))]) (fun s_ w' => (w'.cell? ⟨gb154, 0, none⟩ = some (.int .i64 a0_0) ∧ w'.cell? ⟨gb154, 1, none⟩ = some (.int .i64 a0_1) ∧ w'.cell? ⟨gb154, 2, none⟩ = some (.int .i64 a0_2) ∧ w'.cell? ⟨gb154, 3, none⟩ = some (.int .i64 a0_3) ∧ w'.cell? ⟨gb154, 4, none⟩ = some (.int .i64 a0_4) ∧ w'.cell? ⟨gb154, 5, none⟩ = some (.int .i64 a0_5) ∧ w'.cell? ⟨gb154, 6, none⟩ = some (.int .i64 a0_6) ∧ w'.cell? ⟨gb154, 7, none⟩ = some (.int .i64 a0_7) ∧ w'.cell? ⟨gb154, 8, none⟩ = some (.int .i64 a0_8)) ∧ (Kd.R (Kd.int .u8) 5 w' w.heap.size (fun _ => True) s_ y158) ∧ (w'.heap[gb154]? = some (.cells #[.int .i64 a0_0, .int .i64 a0_1, .int .i64 a0_2, .int .i64 a0_3, .int .i64 a0_4, .int .i64 a0_5, .int .i64 a0_6, .int .i64 a0_7, .int .i64 a0_8] 48 (0, 0))) ∧ (Below w.heap.size w w')) ?_ ?_
   rotate_left
   ·intro hJ2_5_25_26
    refine join_ (σ := Value) 5 #[true, true, true, true, true, true, true, true, true, true, true, true, true, true, true, true, true, true, true, true, true, true, true, true, true, true, false, false, true, true, true, false, false, false] (fun s_ => [(9, .string t156), (12, .string t157), (32, s_), (37, .string t161), (13, .string (t156 ++ t157))]) (fun s_ w' => (w'.cell? ⟨gb154, 0, none⟩ = some (.int .i64 a0_0) ∧ w'.cell? ⟨gb154, 1, none⟩ = some (.int .i64 a0_1) ∧ w'.cell? ⟨gb154, 2, none⟩ = some (.int .i64 a0_2) ∧ w'.cell? ⟨gb154, 3, none⟩ = some (.int .i64 a0_3) ∧ w'.cell? ⟨gb154, 4, none⟩ = some (.int .i64 a0_4) ∧ w'.cell? ⟨gb154, 5, none⟩ = some (.int .i64 a0_5) ∧ w'.cell? ⟨gb154, 6, none⟩ = some (.int .i64 a0_6) ∧ w'.cell? ⟨gb154, 7, none⟩ = some (.int .i64 a0_7) ∧ w'.cell? ⟨gb154, 8, none⟩ = some (.int .i64 a0_8)) ∧ (Kd.R (Kd.int .u8) 5 w' w.heap.size (fun _ => True) s_ y158) ∧ (w'.heap[gb154]? = some (.cells #[.int .i64 a0_0, .int .i64 a0_1, .int .i64 a0_2, .int .i64 a0_3, .int .i64 a0_4, .int .i64 a0_5, .int .i64 a0_6, .int .i64 a0_7, .int .i64 a0_8] 48 (0, 0))) ∧ (Below w.heap.size w w')) ?_ ?_
    rotate_left
    ·intro hJ2_5_25_30
     refine join_ (σ := Value) 6 #[true, true, true, true, true, true, true, true, true, true, true, true, true, true, true, true, true, true, true, true, true, true, true, true, true, true, false, false, true, true, false, false, false, false] (fun s_ => [(9, .string t156), (12, .string t157), (32, s_), (13, .string (t156 ++ t157))]) (fun s_ w' => (w'.cell? ⟨gb154, 0, none⟩ = some (.int .i64 a0_0) ∧ w'.cell? ⟨gb154, 1, none⟩ = some (.int .i64 a0_1) ∧ w'.cell? ⟨gb154, 2, none⟩ = some (.int .i64 a0_2) ∧ w'.cell? ⟨gb154, 3, none⟩ = some (.int .i64 a0_3) ∧ w'.cell? ⟨gb154, 4, none⟩ = some (.int .i64 a0_4) ∧ w'.cell? ⟨gb154, 5, none⟩ = some (.int .i64 a0_5) ∧ w'.cell? ⟨gb154, 6, none⟩ = some (.int .i64 a0_6) ∧ w'.cell? ⟨gb154, 7, none⟩ = some (.int .i64 a0_7) ∧ w'.cell? ⟨gb154, 8, none⟩ = some (.int .i64 a0_8)) ∧ (Kd.R (Kd.int .u8) 5 w' w.heap.size (fun _ => True) s_ y158) ∧ (w'.heap[gb154]? = some (.cells #[.int .i64 a0_0, .int .i64 a0_1, .int .i64 a0_2, .int .i64 a0_3, .int .i64 a0_4, .int .i64 a0_5, .int .i64 a0_6, .int .i64 a0_7, .int .i64 a0_8] 48 (0, 0))) ∧ (Below w.heap.size w w')) ?_ ?_
     rotate_left
     ·intro hJ2_5_25
      refine join_ (σ := Unit) 6 #[true, true, true, true, true, true, true, true, true, true, true, true, true, true, true, true, true, true, true, true, true, true, true, true, true, false, false, false, true, true, true, false, false, false] (fun s_ => [(9, .string t156), (12, .string t157), (37, .string t161), (13, .string (t156 ++ t157))]) (fun s_ w' => (w'.cell? ⟨gb154, 0, none⟩ = some (.int .i64 a0_0) ∧ w'.cell? ⟨gb154, 1, none⟩ = some (.int .i64 a0_1) ∧ w'.cell? ⟨gb154, 2, none⟩ = some (.int .i64 a0_2) ∧ w'.cell? ⟨gb154, 3, none⟩ = some (.int .i64 a0_3) ∧ w'.cell? ⟨gb154, 4, none⟩ = some (.int .i64 a0_4) ∧ w'.cell? ⟨gb154, 5, none⟩ = some (.int .i64 a0_5) ∧ w'.cell? ⟨gb154, 6, none⟩ = some (.int .i64 a0_6) ∧ w'.cell? ⟨gb154, 7, none⟩ = some (.int .i64 a0_7) ∧ w'.cell? ⟨gb154, 8, none⟩ = some (.int .i64 a0_8)) ∧ (w'.heap[gb154]? = some (.cells #[.int .i64 a0_0, .int .i64 a0_1, .int .i64 a0_2, .int .i64 a0_3, .int .i64 a0_4, .int .i64 a0_5, .int .i64 a0_6, .int .i64 a0_7, .int .i64 a0_8] 48 (0, 0))) ∧ (Below w.heap.size w w')) ?_ ?_
      rotate_left
      ·intro hJ2_5_30
       refine join_ (σ := Value) 7 #[true, true, true, true, true, false, false, true, true, true, true, true, true, true, true, true, true, true, true, true, true, true, true, true, true, true, true, false, true, true, false, false, false, false] (fun s_ => [(9, .string t156), (32, s_), (33, .string (strOfNums y158))]) (fun s_ w' => (w'.cell? ⟨gb154, 0, none⟩ = some (.int .i64 a0_0) ∧ w'.cell? ⟨gb154, 1, none⟩ = some (.int .i64 a0_1) ∧ w'.cell? ⟨gb154, 2, none⟩ = some (.int .i64 a0_2) ∧ w'.cell? ⟨gb154, 3, none⟩ = some (.int .i64 a0_3) ∧ w'.cell? ⟨gb154, 4, none⟩ = some (.int .i64 a0_4) ∧ w'.cell? ⟨gb154, 5, none⟩ = some (.int .i64 a0_5) ∧ w'.cell? ⟨gb154, 6, none⟩ = some (.int .i64 a0_6) ∧ w'.cell? ⟨gb154, 7, none⟩ = some (.int .i64 a0_7) ∧ w'.cell? ⟨gb154, 8, none⟩ = some (.int .i64 a0_8)) ∧ (Kd.R (Kd.int .u8) 5 w' w.heap.size (fun _ => True) s_ y158) ∧ (w'.heap[gb154]? = some (.cells #[.int .i64 a0_0, .int .i64 a0_1, .int .i64 a0_2, .int .i64 a0_3, .int .i64 a0_4, .int .i64 a0_5, .int .i64 a0_6, .int .i64 a0_7, .int .i64 a0_8] 48 (0, 0))) ∧ (Below w.heap.size w w')) ?_ ?_
       rotate_left
       ·intro hJ2_25_26
        refine join_ (σ := Unit) 7 #[true, true, true, true, true, true, true, true, true, true, true, true, true, true, true, true, true, true, true, true, true, true, true, true, true, false, false, false, true, true, false, false, false, false] (fun s_ => [(9, .string t156), (12, .string t157), (13, .string (t156 ++ t157))]) (fun s_ w' => (w'.cell? ⟨gb154, 0, none⟩ = some (.int .i64 a0_0) ∧ w'.cell? ⟨gb154, 1, none⟩ = some (.int .i64 a0_1) ∧ w'.cell? ⟨gb154, 2, none⟩ = some (.int .i64 a0_2) ∧ w'.cell? ⟨gb154, 3, none⟩ = some (.int .i64 a0_3) ∧ w'.cell? ⟨gb154, 4, none⟩ = some (.int .i64 a0_4) ∧ w'.cell? ⟨gb154, 5, none⟩ = some (.int .i64 a0_5) ∧ w'.cell? ⟨gb154, 6, none⟩ = some (.int .i64 a0_6) ∧ w'.cell? ⟨gb154, 7, none⟩ = some (.int .i64 a0_7) ∧ w'.cell? ⟨gb154, 8, none⟩ = some (.int .i64 a0_8)) ∧ (w'.heap[gb154]? = some (.cells #[.int .i64 a0_0, .int .i64 a0_1, .int .i64 a0_2, .int .i64 a0_3, .int .i64 a0_4, .int .i64 a0_5, .int .i64 a0_6, .int .i64 a0_7, .int .i64 a0_8] 48 (0, 0))) ∧ (Below w.heap.size w w')) ?_ ?_
        rotate_left
        ·intro hJ2_5
         refine join_ (σ := Value) 8 #[true, true, true, true, true, false, false, true, true, true, true, true, true, true, true, true, true, true, true, true, true, true, true, true, true, true, false, false, true, true, false, false, false, false] (fun s_ => [(9, .string t156), (32, s_)]) (fun s_ w' => (w'.cell? ⟨gb154, 0, none⟩ = some (.int .i64 a0_0) ∧ w'.cell? ⟨gb154, 1, none⟩ = some (.int .i64 a0_1) ∧ w'.cell? ⟨gb154, 2, none⟩ = some (.int .i64 a0_2) ∧ w'.cell? ⟨gb154, 3, none⟩ = some (.int .i64 a0_3) ∧ w'.cell? ⟨gb154, 4, none⟩ = some (.int .i64 a0_4) ∧ w'.cell? ⟨gb154, 5, none⟩ = some (.int .i64 a0_5) ∧ w'.cell? ⟨gb154, 6, none⟩ = some (.int .i64 a0_6) ∧ w'.cell? ⟨gb154, 7, none⟩ = some (.int .i64 a0_7) ∧ w'.cell? ⟨gb154, 8, none⟩ = some (.int .i64 a0_8)) ∧ (Kd.R (Kd.int .u8) 5 w' w.heap.size (fun _ => True) s_ y158) ∧ (w'.heap[gb154]? = some (.cells #[.int .i64 a0_0, .int .i64 a0_1, .int .i64 a0_2, .int .i64 a0_3, .int .i64 a0_4, .int .i64 a0_5, .int .i64 a0_6, .int .i64 a0_7, .int .i64 a0_8] 48 (0, 0))) ∧ (Below w.heap.size w w')) ?_ ?_
         rotate_left
         ·intro hJ2_25
          refine join_ (σ := Value) 8 #[true, true, false, true, true, false, false, true, true, true, true, true, true, true, true, true, true, true, true, true, true, true, true, true, true, true, true, false, true, true, false, false, false, false] (fun s_ => [(32, s_), (33, .string (strOfNums y158))]) (fun s_ w' => (w'.cell? ⟨gb154, 0, none⟩ = some (.int .i64 a0_0) ∧ w'.cell? ⟨gb154, 1, none⟩ = some (.int .i64 a0_1) ∧ w'.cell? ⟨gb154, 2, none⟩ = some (.int .i64 a0_2) ∧ w'.cell? ⟨gb154, 3, none⟩ = some (.int .i64 a0_3) ∧ w'.cell? ⟨gb154, 4, none⟩ = some (.int .i64 a0_4) ∧ w'.cell? ⟨gb154, 5, none⟩ = some (.int .i64 a0_5) ∧ w'.cell? ⟨gb154, 6, none⟩ = some (.int .i64 a0_6) ∧ w'.cell? ⟨gb154, 7, none⟩ = some (.int .i64 a0_7) ∧ w'.cell? ⟨gb154, 8, none⟩ = some (.int .i64 a0_8)) ∧ (Kd.R (Kd.int .u8) 5 w' w.heap.size (fun _ => True) s_ y158) ∧ (w'.heap[gb154]? = some (.cells #[.int .i64 a0_0, .int .i64 a0_1, .int .i64 a0_2, .int .i64 a0_3, .int .i64 a0_4, .int .i64 a0_5, .int .i64 a0_6, .int .i64 a0_7, .int .i64 a0_8] 48 (0, 0))) ∧ (Below w.heap.size w w')) ?_ ?_
          rotate_left
          ·intro hJ25_26
           refine join_ (σ := Unit) 9 #[true, true, true, true, true, false, false, true, true, true, true, true, true, true, true, true, true, true, true, true, true, true, true, true, true, false, false, false, true, true, false, false, false, false] (fun s_ => [(9, .string t156)]) (fun s_ w' => (w'.cell? ⟨gb154, 0, none⟩ = some (.int .i64 a0_0) ∧ w'.cell? ⟨gb154, 1, none⟩ = some (.int .i64 a0_1) ∧ w'.cell? ⟨gb154, 2, none⟩ = some (.int .i64 a0_2) ∧ w'.cell? ⟨gb154, 3, none⟩ = some (.int .i64 a0_3) ∧ w'.cell? ⟨gb154, 4, none⟩ = some (.int .i64 a0_4) ∧ w'.cell? ⟨gb154, 5, none⟩ = some (.int .i64 a0_5) ∧ w'.cell? ⟨gb154, 6, none⟩ = some (.int .i64 a0_6) ∧ w'.cell? ⟨gb154, 7, none⟩ = some (.int .i64 a0_7) ∧ w'.cell? ⟨gb154, 8, none⟩ = some (.int .i64 a0_8)) ∧ (w'.heap[gb154]? = some (.cells #[.int .i64 a0_0, .int .i64 a0_1, .int .i64 a0_2, .int .i64 a0_3, .int .i64 a0_4, .int .i64 a0_5, .int .i64 a0_6, .int .i64 a0_7, .int .i64 a0_8] 48 (0, 0))) ∧ (Below w.heap.size w w')) ?_ ?_
           rotate_left
           ·intro hJ2
            refine join_ (σ := Value) 9 #[true, true, false, true, true, false, false, true, true, true, true, true, true, true, true, true, true, true, true, true, true, true, true, true, true, true, false, false, true, true, false, false, false, false] (fun s_ => [(32, s_)]) (fun s_ w' => (w'.cell? ⟨gb154, 0, none⟩ = some (.int .i64 a0_0) ∧ w'.cell? ⟨gb154, 1, none⟩ = some (.int .i64 a0_1) ∧ w'.cell? ⟨gb154, 2, none⟩ = some (.int .i64 a0_2) ∧ w'.cell? ⟨gb154, 3, none⟩ = some (.int .i64 a0_3) ∧ w'.cell? ⟨gb154, 4, none⟩ = some (.int .i64 a0_4) ∧ w'.cell? ⟨gb154, 5, none⟩ = some (.int .i64 a0_5) ∧ w'.cell? ⟨gb154, 6, none⟩ = some (.int .i64 a0_6) ∧ w'.cell? ⟨gb154, 7, none⟩ = some (.int .i64 a0_7) ∧ w'.cell? ⟨gb154, 8, none⟩ = some (.int .i64 a0_8)) ∧ (Kd.R (Kd.int .u8) 5 w' w.heap.size (fun _ => True) s_ y158) ∧ (w'.heap[gb154]? = some (.cells #[.int .i64 a0_0, .int .i64 a0_1, .int .i64 a0_2, .int .i64 a0_3, .int .i64 a0_4, .int .i64 a0_5, .int .i64 a0_6, .int .i64 a0_7, .int .i64 a0_8] 48 (0, 0))) ∧ (Below w.heap.size w w')) ?_ ?_
            rotate_left
            ·intro hJ25
             refine two_ (i := 2) (j := 25) (Ni := some 9) (Nj := some 32) #[true, true, true, true, true, false, false, true, true, true, true, true, true, true, true, true, true, true, true, true, true, true, true, true, true, false, false, false, true, true, false, false, false, false] #[true, true, false, true, true, false, false, true, true, true, true, true, true, true, true, true, true, true, true, true, true, true, true, true, true, true, false, false, true, true, false, false, false, false] rfl rfl rfl rfl (two_of HT_.out (by kernel_rfl)) (by decide) (by decide) (fun K hK => ?_) (fun K hK => ?_)
             ·skip
              refine goes_ Try.func32 (by kernel_rfl) rfl #[.int .i64 a0_0] (by rfl) rfl rfl (by (try simp only [zO, zP, zQ]); first | done | rfl | (simp only [zS, zR]; rfl)) ?_
              with_reducible refine (ref23_six.calls a0_0 t156 _ A4.out).mono ?_
              rintro e w14 ⟨rfl, hb⟩
              refine ⟨_, rfl, ?_⟩
              have n0_ := Aside0.mk (blk_below (g := gb154) (o := .cells #[.int .i64 a0_0, .int .i64 a0_1, .int .i64 a0_2, .int .i64 a0_3, .int .i64 a0_4, .int .i64 a0_5, .int .i64 a0_6, .int .i64 a0_7, .int .i64 a0_8] 48 (0, 0)) (by (with_reducible repeat (first | refine zH ?_ _ | refine zI ?_ | refine zG ?_ _)); exact BK154.out) hb)
              have n1_ := Aside0.mk (zU (by repeat (first | (with_reducible first | exact HB.out | apply zF | apply zD | apply zE | refine zJ ?_ GE154.out) | exact HB.out)) hb)
              clear BK154
              clear HB
              have BK154 := n0_
              have HB := n1_
              clear n0_ n1_
              (try clear hb)
              (try clear hb2)
              (try clear hk)
              (try clear hi)
              refine hK.out _ _ ⟨(zK BK154.out 0).trans rfl, (zK BK154.out 1).trans rfl, (zK BK154.out 2).trans rfl, (zK BK154.out 3).trans rfl, (zK BK154.out 4).trans rfl, (zK BK154.out 5).trans rfl, (zK BK154.out 6).trans rfl, (zK BK154.out 7).trans rfl, (zK BK154.out 8).trans rfl⟩ (fun hHeld => ?_)
              clear hK K
              refine norm_ (a' := ?_) ?_ ?_
              rotate_left
              ·show Act.put _ (some 9) _ = _
               simp only [Act.put, zA, zB, zC, i64_w, i32_w]
               rfl
              exact norm_ (by first | (simp only [putAll, Act.put, zA, zB, zC]; done) | (simp only [putAll, Act.put, zA, zB, zC]; rfl)) (hJ2 () _ ⟨hHeld, (by (with_reducible repeat (first | refine zH ?_ _ | refine zI ?_ | refine zG ?_ _)); exact BK154.out), (by repeat (first | (with_reducible first | exact HB.out | apply zF | apply zD | apply zE | refine zJ ?_ GE154.out) | exact HB.out))⟩)
             ·skip
              refine Kd.R_lit_step (Kd.int .u8) _ 5 ?hg (N := 32) ?hd (xs := ([(a0_2) % 256, (a0_3) % 256, (a0_4) % 256, (a0_5) % 256, (a0_6) % 256, (a0_7) % 256] : List Int)) (inner := [.int .u8 ((a0_2) % 256), .int .u8 ((a0_3) % 256), .int .u8 ((a0_4) % 256), .int .u8 ((a0_5) % 256), .int .u8 ((a0_6) % 256), .int .u8 ((a0_7) % 256)]) (ok := fun _ => True) (okp := fun _ => True) ?hr ?hp (fun _ hk => hk) trivial (Below.refl _ _) (Nat.le_refl _) (by simp) ?_; (case hd => rfl); (case hg => rfl); (case hr => first | (go_simp; done) | (go_simp; rfl)); (case hp => exact (Reps.one (show Kd.M (Kd.int .u8) _ _ _ ((a0_2) % 256) [.int .u8 ((a0_2) % 256)] from rfl) (Reps.one (show Kd.M (Kd.int .u8) _ _ _ ((a0_3) % 256) [.int .u8 ((a0_3) % 256)] from rfl) (Reps.one (show Kd.M (Kd.int .u8) _ _ _ ((a0_4) % 256) [.int .u8 ((a0_4) % 256)] from rfl) (Reps.one (show Kd.M (Kd.int .u8) _ _ _ ((a0_5) % 256) [.int .u8 ((a0_5) % 256)] from rfl) (Reps.one (show Kd.M (Kd.int .u8) _ _ _ ((a0_6) % 256) [.int .u8 ((a0_6) % 256)] from rfl) (Reps.one (show Kd.M (Kd.int .u8) _ _ _ ((a0_7) % 256) [.int .u8 ((a0_7) % 256)] from rfl) (Reps.none _ _))))))))
              intro v159 w14 ho15 hb hg_ hnew_
              clear hg_ hnew_
              (first | rw [← Ny158.out] at ho15 | (simp only [Int.reduceToNat] at ho15; rw [← Ny158.out] at ho15))
              have n0_ := Aside0.mk (Kd.R_lower ho15 (zT (by repeat (first | (with_reducible first | exact HB.out | apply zF | apply zD | apply zE | refine zJ ?_ GE154.out) | exact HB.out))))
              have n1_ := Aside0.mk (blk_below (g := gb154) (o := .cells #[.int .i64 a0_0, .int .i64 a0_1, .int .i64 a0_2, .int .i64 a0_3, .int .i64 a0_4, .int .i64 a0_5, .int .i64 a0_6, .int .i64 a0_7, .int .i64 a0_8] 48 (0, 0)) (by (with_reducible repeat (first | refine zH ?_ _ | refine zI ?_ | refine zG ?_ _)); exact BK154.out) hb)
              have n2_ := Aside0.mk (zU (by repeat (first | (with_reducible first | exact HB.out | apply zF | apply zD | apply zE | refine zJ ?_ GE154.out) | exact HB.out)) hb)
              clear BK154
              clear HB
              have HO160 := n0_
              have BK154 := n1_
              have HB := n2_
              clear n0_ n1_ n2_
              clear hb ho15
              refine hK.out _ _ ⟨(zK BK154.out 0).trans rfl, (zK BK154.out 1).trans rfl, (zK BK154.out 2).trans rfl, (zK BK154.out 3).trans rfl, (zK BK154.out 4).trans rfl, (zK BK154.out 5).trans rfl, (zK BK154.out 6).trans rfl, (zK BK154.out 7).trans rfl, (zK BK154.out 8).trans rfl⟩ (fun hHeld => ?_)
              clear hK K
              refine norm_ (a' := ?_) ?_ ?_
              rotate_left
              ·show Act.put _ (some 32) _ = _
               simp only [Act.put, zA, zB, zC, i64_w, i32_w]
               rfl
              exact norm_ (by first | (simp only [putAll, Act.put, zA, zB, zC]; done) | (simp only [putAll, Act.put, zA, zB, zC]; rfl)) (hJ25 (v159) _ ⟨hHeld, (by (with_reducible repeat (first | apply zY | apply zX | apply zZ)); exact HO160.out), (by (with_reducible repeat (first | refine zH ?_ _ | refine zI ?_ | refine zG ?_ _)); exact BK154.out), (by repeat (first | (with_reducible first | exact HB.out | apply zF | apply zD | apply zE | refine zJ ?_ GE154.out) | exact HB.out))⟩)
            ·skip
             rintro v159 w16 ⟨hS_, h0_, h1_, h2_⟩
             have n0_ : Aside0 (Kd.R (Kd.int .u8) 5 w16 w.heap.size (fun _ => True) v159 y158) := ⟨h0_⟩
             have n1_ : Aside0 (w16.heap[gb154]? = some (.cells #[.int .i64 a0_0, .int .i64 a0_1, .int .i64 a0_2, .int .i64 a0_3, .int .i64 a0_4, .int .i64 a0_5, .int .i64 a0_6, .int .i64 a0_7, .int .i64 a0_8] 48 (0, 0))) := ⟨h1_⟩
             have n2_ : Aside0 (Below w.heap.size w w16) := ⟨h2_⟩
             clear BK154
             clear HB
             clear h0_ h1_ h2_
             have HO160 := n0_
             have BK154 := n1_
             have HB := n2_
             clear n0_ n1_ n2_
             have hHeld : w16.cell? ⟨gb154, 0, none⟩ = some (.int .i64 a0_0) ∧ w16.cell? ⟨gb154, 1, none⟩ = some (.int .i64 a0_1) ∧ w16.cell? ⟨gb154, 2, none⟩ = some (.int .i64 a0_2) ∧ w16.cell? ⟨gb154, 3, none⟩ = some (.int .i64 a0_3) ∧ w16.cell? ⟨gb154, 4, none⟩ = some (.int .i64 a0_4) ∧ w16.cell? ⟨gb154, 5, none⟩ = some (.int .i64 a0_5) ∧ w16.cell? ⟨gb154, 6, none⟩ = some (.int .i64 a0_6) ∧ w16.cell? ⟨gb154, 7, none⟩ = some (.int .i64 a0_7) ∧ w16.cell? ⟨gb154, 8, none⟩ = some (.int .i64 a0_8) := hS_
             refine norm_ (a' := ?_) ?_ ?_
             rotate_left
             ·simp only [putAll, Act.put, zA, zB, zC]
              rfl
             refine two_ (i := 2) (j := 26) (Ni := some 9) (Nj := some 33) #[true, true, true, true, true, false, false, true, true, true, true, true, true, true, true, true, true, true, true, true, true, true, true, true, true, true, false, false, true, true, false, false, false, false] #[true, true, false, true, true, false, false, true, true, true, true, true, true, true, true, true, true, true, true, true, true, true, true, true, true, true, true, false, true, true, false, false, false, false] rfl rfl rfl rfl (two_of HT_.out (by kernel_rfl)) (by decide) (by decide) (fun K hK => ?_) (fun K hK => ?_)
             ·skip
              refine goes_ Try.func32 (by kernel_rfl) rfl #[.int .i64 a0_0] (by rfl) rfl rfl (by (try simp only [zO, zP, zQ]); first | done | rfl | (simp only [zS, zR]; rfl)) ?_
              with_reducible refine (ref23_six.calls a0_0 t156 _ A4.out).mono ?_
              rintro e w17 ⟨rfl, hb⟩
              refine ⟨_, rfl, ?_⟩
              have n0_ := Aside0.mk (Kd.R_below (by (with_reducible repeat (first | apply zY | apply zX | apply zZ)); exact HO160.out) hb)
              have n1_ := Aside0.mk (blk_below (g := gb154) (o := .cells #[.int .i64 a0_0, .int .i64 a0_1, .int .i64 a0_2, .int .i64 a0_3, .int .i64 a0_4, .int .i64 a0_5, .int .i64 a0_6, .int .i64 a0_7, .int .i64 a0_8] 48 (0, 0)) (by (with_reducible repeat (first | refine zH ?_ _ | refine zI ?_ | refine zG ?_ _)); exact BK154.out) hb)
              have n2_ := Aside0.mk (zU (by repeat (first | (with_reducible first | exact HB.out | apply zF | apply zD | apply zE | refine zJ ?_ GE154.out) | exact HB.out)) hb)
              clear HO160
              clear BK154
              clear HB
              have HO160 := n0_
              have BK154 := n1_
              have HB := n2_
              clear n0_ n1_ n2_
              (try clear hb)
              (try clear hb2)
              (try clear hk)
              (try clear hi)
              refine hK.out _ _ ⟨(zK BK154.out 0).trans rfl, (zK BK154.out 1).trans rfl, (zK BK154.out 2).trans rfl, (zK BK154.out 3).trans rfl, (zK BK154.out 4).trans rfl, (zK BK154.out 5).trans rfl, (zK BK154.out 6).trans rfl, (zK BK154.out 7).trans rfl, (zK BK154.out 8).trans rfl⟩ (fun hHeld => ?_)
              clear hK K
              refine norm_ (a' := ?_) ?_ ?_
              rotate_left
              ·show Act.put _ (some 9) _ = _
               simp only [Act.put, zA, zB, zC, i64_w, i32_w]
               rfl
              exact norm_ (by first | (simp only [putAll, Act.put, zA, zB, zC]; done) | (simp only [putAll, Act.put, zA, zB, zC]; rfl)) (hJ2_25 (v159) _ ⟨hHeld, (by (with_reducible repeat (first | apply zY | apply zX | apply zZ)); exact HO160.out), (by (with_reducible repeat (first | refine zH ?_ _ | refine zI ?_ | refine zG ?_ _)); exact BK154.out), (by repeat (first | (with_reducible first | exact HB.out | apply zF | apply zD | apply zE | refine zJ ?_ GE154.out) | exact HB.out))⟩)
             ·skip
              have hcv17 := own_string (P := Try.prog) Try.underlying57 Try.underlying5 Try.underlying9 (Kd.own_of_R HO160.out)
              refine value_ (w1 := ?_) (v := ?_) (by rfl) rfl ?_ ?_
              rotate_left 2
              ·go_simp
               constructor
               ·rfl
               ·rfl
              clear hcv17
              refine hK.out _ _ ⟨(zK BK154.out 0).trans rfl, (zK BK154.out 1).trans rfl, (zK BK154.out 2).trans rfl, (zK BK154.out 3).trans rfl, (zK BK154.out 4).trans rfl, (zK BK154.out 5).trans rfl, (zK BK154.out 6).trans rfl, (zK BK154.out 7).trans rfl, (zK BK154.out 8).trans rfl⟩ (fun hHeld => ?_)
              clear hK K
              refine norm_ (a' := ?_) ?_ ?_
              rotate_left
              ·show Act.put _ (some 33) _ = _
               simp only [Act.put, zA, zB, zC, i64_w, i32_w]
               rfl
              exact norm_ (by first | (simp only [putAll, Act.put, zA, zB, zC]; done) | (simp only [putAll, Act.put, zA, zB, zC]; rfl)) (hJ25_26 (v159) _ ⟨hHeld, (by (with_reducible repeat (first | apply zY | apply zX | apply zZ)); exact HO160.out), (by (with_reducible repeat (first | refine zH ?_ _ | refine zI ?_ | refine zG ?_ _)); exact BK154.out), (by repeat (first | (with_reducible first | exact HB.out | apply zF | apply zD | apply zE | refine zJ ?_ GE154.out) | exact HB.out))⟩)
           ·skip
            rintro _ w15 ⟨hS_, h0_, h1_⟩
            have n0_ : Aside0 (w15.heap[gb154]? = some (.cells #[.int .i64 a0_0, .int .i64 a0_1, .int .i64 a0_2, .int .i64 a0_3, .int .i64 a0_4, .int .i64 a0_5, .int .i64 a0_6, .int .i64 a0_7, .int .i64 a0_8] 48 (0, 0))) := ⟨h0_⟩
            have n1_ : Aside0 (Below w.heap.size w w15) := ⟨h1_⟩
            clear BK154
            clear HB
            clear h0_ h1_
            have BK154 := n0_
            have HB := n1_
            clear n0_ n1_
            have hHeld : w15.cell? ⟨gb154, 0, none⟩ = some (.int .i64 a0_0) ∧ w15.cell? ⟨gb154, 1, none⟩ = some (.int .i64 a0_1) ∧ w15.cell? ⟨gb154, 2, none⟩ = some (.int .i64 a0_2) ∧ w15.cell? ⟨gb154, 3, none⟩ = some (.int .i64 a0_3) ∧ w15.cell? ⟨gb154, 4, none⟩ = some (.int .i64 a0_4) ∧ w15.cell? ⟨gb154, 5, none⟩ = some (.int .i64 a0_5) ∧ w15.cell? ⟨gb154, 6, none⟩ = some (.int .i64 a0_6) ∧ w15.cell? ⟨gb154, 7, none⟩ = some (.int .i64 a0_7) ∧ w15.cell? ⟨gb154, 8, none⟩ = some (.int .i64 a0_8) := hS_
            refine norm_ (a' := ?_) ?_ ?_
            rotate_left
            ·simp only [putAll, Act.put, zA, zB, zC]
             rfl
            refine two_ (i := 5) (j := 25) (Ni := some 12) (Nj := some 32) #[true, true, true, true, true, true, false, true, true, true, true, true, true, true, true, true, true, true, true, true, true, true, true, true, true, false, false, false, true, true, false, false, false, false] #[true, true, true, true, true, false, false, true, true, true, true, true, true, true, true, true, true, true, true, true, true, true, true, true, true, true, false, false, true, true, false, false, false, false] rfl rfl rfl rfl (two_of HT_.out (by kernel_rfl)) (by decide) (by decide) (fun K hK => ?_) (fun K hK => ?_)
            ·skip
             refine goes_ Try.func32 (by kernel_rfl) rfl #[.int .i64 a0_1] (by rfl) rfl rfl (by (try simp only [zO, zP, zQ]); first | done | rfl | (simp only [zS, zR]; rfl)) ?_
             with_reducible refine (ref23_six.calls a0_1 t157 _ A5.out).mono ?_
             rintro e w16 ⟨rfl, hb⟩
             refine ⟨_, rfl, ?_⟩
             have n0_ := Aside0.mk (blk_below (g := gb154) (o := .cells #[.int .i64 a0_0, .int .i64 a0_1, .int .i64 a0_2, .int .i64 a0_3, .int .i64 a0_4, .int .i64 a0_5, .int .i64 a0_6, .int .i64 a0_7, .int .i64 a0_8] 48 (0, 0)) (by (with_reducible repeat (first | refine zH ?_ _ | refine zI ?_ | refine zG ?_ _)); exact BK154.out) hb)
             have n1_ := Aside0.mk (zU (by repeat (first | (with_reducible first | exact HB.out | apply zF | apply zD | apply zE | refine zJ ?_ GE154.out) | exact HB.out)) hb)
             clear BK154
             clear HB
             have BK154 := n0_
             have HB := n1_
             clear n0_ n1_
             (try clear hb)
             (try clear hb2)
             (try clear hk)
             (try clear hi)
             refine hK.out _ _ ⟨(zK BK154.out 0).trans rfl, (zK BK154.out 1).trans rfl, (zK BK154.out 2).trans rfl, (zK BK154.out 3).trans rfl, (zK BK154.out 4).trans rfl, (zK BK154.out 5).trans rfl, (zK BK154.out 6).trans rfl, (zK BK154.out 7).trans rfl, (zK BK154.out 8).trans rfl⟩ (fun hHeld => ?_)
             clear hK K
             refine norm_ (a' := ?_) ?_ ?_
             rotate_left
             ·show Act.put _ (some 12) _ = _
              simp only [Act.put, zA, zB, zC, i64_w, i32_w]
              rfl
             refine pure_ (i := 6) (N := some 13) (v := ?_) (a' := ?_) #[true, true, true, true, true, true, true, true, true, true, true, true, true, true, true, true, true, true, true, true, true, true, true, true, true, false, false, false, true, true, false, false, false, false] rfl rfl (any_of HT_.out (by kernel_rfl)) (fun _ _ _ h => h) (Or.inl ⟨by rfl, ?_⟩) ?_ ?_
             rotate_left
             ·intro w'
              go_simp
              with_reducible rfl
             rotate_left
             ·simp only [Act.put, zA, zB, zC, i64_w, i32_w]
              rfl
             exact norm_ (by first | (simp only [putAll, Act.put, zA, zB, zC]; done) | (simp only [putAll, Act.put, zA, zB, zC]; rfl)) (hJ2_5 () _ ⟨hHeld, (by (with_reducible repeat (first | refine zH ?_ _ | refine zI ?_ | refine zG ?_ _)); exact BK154.out), (by repeat (first | (with_reducible first | exact HB.out | apply zF | apply zD | apply zE | refine zJ ?_ GE154.out) | exact HB.out))⟩)
            ·skip
             refine Kd.R_lit_step (Kd.int .u8) _ 5 ?hg (N := 32) ?hd (xs := ([(a0_2) % 256, (a0_3) % 256, (a0_4) % 256, (a0_5) % 256, (a0_6) % 256, (a0_7) % 256] : List Int)) (inner := [.int .u8 ((a0_2) % 256), .int .u8 ((a0_3) % 256), .int .u8 ((a0_4) % 256), .int .u8 ((a0_5) % 256), .int .u8 ((a0_6) % 256), .int .u8 ((a0_7) % 256)]) (ok := fun _ => True) (okp := fun _ => True) ?hr ?hp (fun _ hk => hk) trivial (Below.refl _ _) (Nat.le_refl _) (by simp) ?_; (case hd => rfl); (case hg => rfl); (case hr => first | (go_simp; done) | (go_simp; rfl)); (case hp => exact (Reps.one (show Kd.M (Kd.int .u8) _ _ _ ((a0_2) % 256) [.int .u8 ((a0_2) % 256)] from rfl) (Reps.one (show Kd.M (Kd.int .u8) _ _ _ ((a0_3) % 256) [.int .u8 ((a0_3) % 256)] from rfl) (Reps.one (show Kd.M (Kd.int .u8) _ _ _ ((a0_4) % 256) [.int .u8 ((a0_4) % 256)] from rfl) (Reps.one (show Kd.M (Kd.int .u8) _ _ _ ((a0_5) % 256) [.int .u8 ((a0_5) % 256)] from rfl) (Reps.one (show Kd.M (Kd.int .u8) _ _ _ ((a0_6) % 256) [.int .u8 ((a0_6) % 256)] from rfl) (Reps.one (show Kd.M (Kd.int .u8) _ _ _ ((a0_7) % 256) [.int .u8 ((a0_7) % 256)] from rfl) (Reps.none _ _))))))))
             intro v159 w16 ho17 hb hg_ hnew_
             clear hg_ hnew_
             (first | rw [← Ny158.out] at ho17 | (simp only [Int.reduceToNat] at ho17; rw [← Ny158.out] at ho17))
             have n0_ := Aside0.mk (Kd.R_lower ho17 (zT (by repeat (first | (with_reducible first | exact HB.out | apply zF | apply zD | apply zE | refine zJ ?_ GE154.out) | exact HB.out))))
             have n1_ := Aside0.mk (blk_below (g := gb154) (o := .cells #[.int .i64 a0_0, .int .i64 a0_1, .int .i64 a0_2, .int .i64 a0_3, .int .i64 a0_4, .int .i64 a0_5, .int .i64 a0_6, .int .i64 a0_7, .int .i64 a0_8] 48 (0, 0)) (by (with_reducible repeat (first | refine zH ?_ _ | refine zI ?_ | refine zG ?_ _)); exact BK154.out) hb)
             have n2_ := Aside0.mk (zU (by repeat (first | (with_reducible first | exact HB.out | apply zF | apply zD | apply zE | refine zJ ?_ GE154.out) | exact HB.out)) hb)
             clear BK154
             clear HB
             have HO160 := n0_
             have BK154 := n1_
             have HB := n2_
             clear n0_ n1_ n2_
             clear hb ho17
             refine hK.out _ _ ⟨(zK BK154.out 0).trans rfl, (zK BK154.out 1).trans rfl, (zK BK154.out 2).trans rfl, (zK BK154.out 3).trans rfl, (zK BK154.out 4).trans rfl, (zK BK154.out 5).trans rfl, (zK BK154.out 6).trans rfl, (zK BK154.out 7).trans rfl, (zK BK154.out 8).trans rfl⟩ (fun hHeld => ?_)
             clear hK K
             refine norm_ (a' := ?_) ?_ ?_
             rotate_left
             ·show Act.put _ (some 32) _ = _
              simp only [Act.put, zA, zB, zC, i64_w, i32_w]
              rfl
             exact norm_ (by first | (simp only [putAll, Act.put, zA, zB, zC]; done) | (simp only [putAll, Act.put, zA, zB, zC]; rfl)) (hJ2_25 (v159) _ ⟨hHeld, (by (with_reducible repeat (first | apply zY | apply zX | apply zZ)); exact HO160.out), (by (with_reducible repeat (first | refine zH ?_ _ | refine zI ?_ | refine zG ?_ _)); exact BK154.out), (by repeat (first | (with_reducible first | exact HB.out | apply zF | apply zD | apply zE | refine zJ ?_ GE154.out) | exact HB.out))⟩)
          ·skip
           rintro v159 w17 ⟨hS_, h0_, h1_, h2_⟩
           have n0_ : Aside0 (Kd.R (Kd.int .u8) 5 w17 w.heap.size (fun _ => True) v159 y158) := ⟨h0_⟩
           have n1_ : Aside0 (w17.heap[gb154]? = some (.cells #[.int .i64 a0_0, .int .i64 a0_1, .int .i64 a0_2, .int .i64 a0_3, .int .i64 a0_4, .int .i64 a0_5, .int .i64 a0_6, .int .i64 a0_7, .int .i64 a0_8] 48 (0, 0))) := ⟨h1_⟩
           have n2_ : Aside0 (Below w.heap.size w w17) := ⟨h2_⟩
           clear BK154
           clear HB
           clear h0_ h1_ h2_
           have HO160 := n0_
           have BK154 := n1_
           have HB := n2_
           clear n0_ n1_ n2_
           have hHeld : w17.cell? ⟨gb154, 0, none⟩ = some (.int .i64 a0_0) ∧ w17.cell? ⟨gb154, 1, none⟩ = some (.int .i64 a0_1) ∧ w17.cell? ⟨gb154, 2, none⟩ = some (.int .i64 a0_2) ∧ w17.cell? ⟨gb154, 3, none⟩ = some (.int .i64 a0_3) ∧ w17.cell? ⟨gb154, 4, none⟩ = some (.int .i64 a0_4) ∧ w17.cell? ⟨gb154, 5, none⟩ = some (.int .i64 a0_5) ∧ w17.cell? ⟨gb154, 6, none⟩ = some (.int .i64 a0_6) ∧ w17.cell? ⟨gb154, 7, none⟩ = some (.int .i64 a0_7) ∧ w17.cell? ⟨gb154, 8, none⟩ = some (.int .i64 a0_8) := hS_
           refine norm_ (a' := ?_) ?_ ?_
           rotate_left
           ·simp only [putAll, Act.put, zA, zB, zC]
            rfl
           refine one_ (i := 2) (N := some 9) #[true, true, true, true, true, false, false, true, true, true, true, true, true, true, true, true, true, true, true, true, true, true, true, true, true, true, true, false, true, true, false, false, false, false] rfl rfl (one_of HT_.out (by kernel_rfl)) (by decide) (fun K hK => ?_)
           refine goes_ Try.func32 (by kernel_rfl) rfl #[.int .i64 a0_0] (by rfl) rfl rfl (by (try simp only [zO, zP, zQ]); first | done | rfl | (simp only [zS, zR]; rfl)) ?_
           with_reducible refine (ref23_six.calls a0_0 t156 _ A4.out).mono ?_
           rintro e w18 ⟨rfl, hb⟩
           refine ⟨_, rfl, ?_⟩
           have n0_ := Aside0.mk (Kd.R_below (by (with_reducible repeat (first | apply zY | apply zX | apply zZ)); exact HO160.out) hb)
           have n1_ := Aside0.mk (blk_below (g := gb154) (o := .cells #[.int .i64 a0_0, .int .i64 a0_1, .int .i64 a0_2, .int .i64 a0_3, .int .i64 a0_4, .int .i64 a0_5, .int .i64 a0_6, .int .i64 a0_7, .int .i64 a0_8] 48 (0, 0)) (by (with_reducible repeat (first | refine zH ?_ _ | refine zI ?_ | refine zG ?_ _)); exact BK154.out) hb)
           have n2_ := Aside0.mk (zU (by repeat (first | (with_reducible first | exact HB.out | apply zF | apply zD | apply zE | refine zJ ?_ GE154.out) | exact HB.out)) hb)
           clear HO160
           clear BK154
           clear HB
           have HO160 := n0_
           have BK154 := n1_
           have HB := n2_
           clear n0_ n1_ n2_
           (try clear hb)
           (try clear hb2)
           (try clear hk)
           (try clear hi)
           refine hK.out _ _ ⟨(zK BK154.out 0).trans rfl, (zK BK154.out 1).trans rfl, (zK BK154.out 2).trans rfl, (zK BK154.out 3).trans rfl, (zK BK154.out 4).trans rfl, (zK BK154.out 5).trans rfl, (zK BK154.out 6).trans rfl, (zK BK154.out 7).trans rfl, (zK BK154.out 8).trans rfl⟩ (fun hHeld => ?_)
           clear hK K
           refine norm_ (a' := ?_) ?_ ?_
           rotate_left
           ·show Act.put _ (some 9) _ = _
            simp only [Act.put, zA, zB, zC, i64_w, i32_w]
            rfl
           exact norm_ (by first | (simp only [putAll, Act.put, zA, zB, zC]; done) | (simp only [putAll, Act.put, zA, zB, zC]; rfl)) (hJ2_25_26 (v159) _ ⟨hHeld, (by (with_reducible repeat (first | apply zY | apply zX | apply zZ)); exact HO160.out), (by (with_reducible repeat (first | refine zH ?_ _ | refine zI ?_ | refine zG ?_ _)); exact BK154.out), (by repeat (first | (with_reducible first | exact HB.out | apply zF | apply zD | apply zE | refine zJ ?_ GE154.out) | exact HB.out))⟩)
         ·skip
          rintro v159 w17 ⟨hS_, h0_, h1_, h2_⟩
          have n0_ : Aside0 (Kd.R (Kd.int .u8) 5 w17 w.heap.size (fun _ => True) v159 y158) := ⟨h0_⟩
          have n1_ : Aside0 (w17.heap[gb154]? = some (.cells #[.int .i64 a0_0, .int .i64 a0_1, .int .i64 a0_2, .int .i64 a0_3, .int .i64 a0_4, .int .i64 a0_5, .int .i64 a0_6, .int .i64 a0_7, .int .i64 a0_8] 48 (0, 0))) := ⟨h1_⟩
          have n2_ : Aside0 (Below w.heap.size w w17) := ⟨h2_⟩
          clear BK154
          clear HB
          clear h0_ h1_ h2_
          have HO160 := n0_
          have BK154 := n1_
          have HB := n2_
          clear n0_ n1_ n2_
          have hHeld : w17.cell? ⟨gb154, 0, none⟩ = some (.int .i64 a0_0) ∧ w17.cell? ⟨gb154, 1, none⟩ = some (.int .i64 a0_1) ∧ w17.cell? ⟨gb154, 2, none⟩ = some (.int .i64 a0_2) ∧ w17.cell? ⟨gb154, 3, none⟩ = some (.int .i64 a0_3) ∧ w17.cell? ⟨gb154, 4, none⟩ = some (.int .i64 a0_4) ∧ w17.cell? ⟨gb154, 5, none⟩ = some (.int .i64 a0_5) ∧ w17.cell? ⟨gb154, 6, none⟩ = some (.int .i64 a0_6) ∧ w17.cell? ⟨gb154, 7, none⟩ = some (.int .i64 a0_7) ∧ w17.cell? ⟨gb154, 8, none⟩ = some (.int .i64 a0_8) := hS_
          refine norm_ (a' := ?_) ?_ ?_
          rotate_left
          ·simp only [putAll, Act.put, zA, zB, zC]
           rfl
          refine two_ (i := 5) (j := 26) (Ni := some 12) (Nj := some 33) #[true, true, true, true, true, true, false, true, true, true, true, true, true, true, true, true, true, true, true, true, true, true, true, true, true, true, false, false, true, true, false, false, false, false] #[true, true, true, true, true, false, false, true, true, true, true, true, true, true, true, true, true, true, true, true, true, true, true, true, true, true, true, false, true, true, false, false, false, false] rfl rfl rfl rfl (two_of HT_.out (by kernel_rfl)) (by decide) (by decide) (fun K hK => ?_) (fun K hK => ?_)
          ·skip
           refine goes_ Try.func32 (by kernel_rfl) rfl #[.int .i64 a0_1] (by rfl) rfl rfl (by (try simp only [zO, zP, zQ]); first | done | rfl | (simp only [zS, zR]; rfl)) ?_
           with_reducible refine (ref23_six.calls a0_1 t157 _ A5.out).mono ?_
           rintro e w18 ⟨rfl, hb⟩
           refine ⟨_, rfl, ?_⟩
           have n0_ := Aside0.mk (Kd.R_below (by (with_reducible repeat (first | apply zY | apply zX | apply zZ)); exact HO160.out) hb)
           have n1_ := Aside0.mk (blk_below (g := gb154) (o := .cells #[.int .i64 a0_0, .int .i64 a0_1, .int .i64 a0_2, .int .i64 a0_3, .int .i64 a0_4, .int .i64 a0_5, .int .i64 a0_6, .int .i64 a0_7, .int .i64 a0_8] 48 (0, 0)) (by (with_reducible repeat (first | refine zH ?_ _ | refine zI ?_ | refine zG ?_ _)); exact BK154.out) hb)
           have n2_ := Aside0.mk (zU (by repeat (first | (with_reducible first | exact HB.out | apply zF | apply zD | apply zE | refine zJ ?_ GE154.out) | exact HB.out)) hb)
           clear HO160
           clear BK154
           clear HB
           have HO160 := n0_
           have BK154 := n1_
           have HB := n2_
           clear n0_ n1_ n2_
           (try clear hb)
           (try clear hb2)
           (try clear hk)
           (try clear hi)
           refine hK.out _ _ ⟨(zK BK154.out 0).trans rfl, (zK BK154.out 1).trans rfl, (zK BK154.out 2).trans rfl, (zK BK154.out 3).trans rfl, (zK BK154.out 4).trans rfl, (zK BK154.out 5).trans rfl, (zK BK154.out 6).trans rfl, (zK BK154.out 7).trans rfl, (zK BK154.out 8).trans rfl⟩ (fun hHeld => ?_)
           clear hK K
           refine norm_ (a' := ?_) ?_ ?_
           rotate_left
           ·show Act.put _ (some 12) _ = _
            simp only [Act.put, zA, zB, zC, i64_w, i32_w]
            rfl
           refine pure_ (i := 6) (N := some 13) (v := ?_) (a' := ?_) #[true, true, true, true, true, true, true, true, true, true, true, true, true, true, true, true, true, true, true, true, true, true, true, true, true, true, false, false, true, true, false, false, false, false] rfl rfl (any_of HT_.out (by kernel_rfl)) (fun _ _ _ h => h) (Or.inl ⟨by rfl, ?_⟩) ?_ ?_
           rotate_left
           ·intro w'
            go_simp
            with_reducible rfl
           rotate_left
           ·simp only [Act.put, zA, zB, zC, i64_w, i32_w]
            rfl
           exact norm_ (by first | (simp only [putAll, Act.put, zA, zB, zC]; done) | (simp only [putAll, Act.put, zA, zB, zC]; rfl)) (hJ2_5_25 (v159) _ ⟨hHeld, (by (with_reducible repeat (first | apply zY | apply zX | apply zZ)); exact HO160.out), (by (with_reducible repeat (first | refine zH ?_ _ | refine zI ?_ | refine zG ?_ _)); exact BK154.out), (by repeat (first | (with_reducible first | exact HB.out | apply zF | apply zD | apply zE | refine zJ ?_ GE154.out) | exact HB.out))⟩)
          ·skip
           have hcv18 := own_string (P := Try.prog) Try.underlying57 Try.underlying5 Try.underlying9 (Kd.own_of_R HO160.out)
           refine value_ (w1 := ?_) (v := ?_) (by rfl) rfl ?_ ?_
           rotate_left 2
           ·go_simp
            constructor
            ·rfl
            ·rfl
           clear hcv18
           refine hK.out _ _ ⟨(zK BK154.out 0).trans rfl, (zK BK154.out 1).trans rfl, (zK BK154.out 2).trans rfl, (zK BK154.out 3).trans rfl, (zK BK154.out 4).trans rfl, (zK BK154.out 5).trans rfl, (zK BK154.out 6).trans rfl, (zK BK154.out 7).trans rfl, (zK BK154.out 8).trans rfl⟩ (fun hHeld => ?_)
           clear hK K
           refine norm_ (a' := ?_) ?_ ?_
           rotate_left
           ·show Act.put _ (some 33) _ = _
            simp only [Act.put, zA, zB, zC, i64_w, i32_w]
            rfl
           exact norm_ (by first | (simp only [putAll, Act.put, zA, zB, zC]; done) | (simp only [putAll, Act.put, zA, zB, zC]; rfl)) (hJ2_25_26 (v159) _ ⟨hHeld, (by (with_reducible repeat (first | apply zY | apply zX | apply zZ)); exact HO160.out), (by (with_reducible repeat (first | refine zH ?_ _ | refine zI ?_ | refine zG ?_ _)); exact BK154.out), (by repeat (first | (with_reducible first | exact HB.out | apply zF | apply zD | apply zE | refine zJ ?_ GE154.out) | exact HB.out))⟩)
        ·skip
         rintro _ w16 ⟨hS_, h0_, h1_⟩
         have n0_ : Aside0 (w16.heap[gb154]? = some (.cells #[.int .i64 a0_0, .int .i64 a0_1, .int .i64 a0_2, .int .i64 a0_3, .int .i64 a0_4, .int .i64 a0_5, .int .i64 a0_6, .int .i64 a0_7, .int .i64 a0_8] 48 (0, 0))) := ⟨h0_⟩
         have n1_ : Aside0 (Below w.heap.size w w16) := ⟨h1_⟩
         clear BK154
         clear HB
         clear h0_ h1_
         have BK154 := n0_
         have HB := n1_
         clear n0_ n1_
         have hHeld : w16.cell? ⟨gb154, 0, none⟩ = some (.int .i64 a0_0) ∧ w16.cell? ⟨gb154, 1, none⟩ = some (.int .i64 a0_1) ∧ w16.cell? ⟨gb154, 2, none⟩ = some (.int .i64 a0_2) ∧ w16.cell? ⟨gb154, 3, none⟩ = some (.int .i64 a0_3) ∧ w16.cell? ⟨gb154, 4, none⟩ = some (.int .i64 a0_4) ∧ w16.cell? ⟨gb154, 5, none⟩ = some (.int .i64 a0_5) ∧ w16.cell? ⟨gb154, 6, none⟩ = some (.int .i64 a0_6) ∧ w16.cell? ⟨gb154, 7, none⟩ = some (.int .i64 a0_7) ∧ w16.cell? ⟨gb154, 8, none⟩ = some (.int .i64 a0_8) := hS_
         refine norm_ (a' := ?_) ?_ ?_
         rotate_left
         ·simp only [putAll, Act.put, zA, zB, zC]
          rfl
         refine two_ (i := 25) (j := 30) (Ni := some 32) (Nj := some 37) #[true, true, true, true, true, true, true, true, true, true, true, true, true, true, true, true, true, true, true, true, true, true, true, true, true, true, false, false, true, true, false, false, false, false] #[true, true, true, true, true, true, true, true, true, true, true, true, true, true, true, true, true, true, true, true, true, true, true, true, true, false, false, false, true, true, true, false, false, false] rfl rfl rfl rfl (two_of HT_.out (by kernel_rfl)) (by decide) (by decide) (fun K hK => ?_) (fun K hK => ?_)
         ·skip
          refine Kd.R_lit_step (Kd.int .u8) _ 5 ?hg (N := 32) ?hd (xs := ([(a0_2) % 256, (a0_3) % 256, (a0_4) % 256, (a0_5) % 256, (a0_6) % 256, (a0_7) % 256] : List Int)) (inner := [.int .u8 ((a0_2) % 256), .int .u8 ((a0_3) % 256), .int .u8 ((a0_4) % 256), .int .u8 ((a0_5) % 256), .int .u8 ((a0_6) % 256), .int .u8 ((a0_7) % 256)]) (ok := fun _ => True) (okp := fun _ => True) ?hr ?hp (fun _ hk => hk) trivial (Below.refl _ _) (Nat.le_refl _) (by simp) ?_; (case hd => rfl); (case hg => rfl); (case hr => first | (go_simp; done) | (go_simp; rfl)); (case hp => exact (Reps.one (show Kd.M (Kd.int .u8) _ _ _ ((a0_2) % 256) [.int .u8 ((a0_2) % 256)] from rfl) (Reps.one (show Kd.M (Kd.int .u8) _ _ _ ((a0_3) % 256) [.int .u8 ((a0_3) % 256)] from rfl) (Reps.one (show Kd.M (Kd.int .u8) _ _ _ ((a0_4) % 256) [.int .u8 ((a0_4) % 256)] from rfl) (Reps.one (show Kd.M (Kd.int .u8) _ _ _ ((a0_5) % 256) [.int .u8 ((a0_5) % 256)] from rfl) (Reps.one (show Kd.M (Kd.int .u8) _ _ _ ((a0_6) % 256) [.int .u8 ((a0_6) % 256)] from rfl) (Reps.one (show Kd.M (Kd.int .u8) _ _ _ ((a0_7) % 256) [.int .u8 ((a0_7) % 256)] from rfl) (Reps.none _ _))))))))
          intro v159 w17 ho18 hb hg_ hnew_
          clear hg_ hnew_
          (first | rw [← Ny158.out] at ho18 | (simp only [Int.reduceToNat] at ho18; rw [← Ny158.out] at ho18))
          have n0_ := Aside0.mk (Kd.R_lower ho18 (zT (by repeat (first | (with_reducible first | exact HB.out | apply zF | apply zD | apply zE | refine zJ ?_ GE154.out) | exact HB.out))))
          have n1_ := Aside0.mk (blk_below (g := gb154) (o := .cells #[.int .i64 a0_0, .int .i64 a0_1, .int .i64 a0_2, .int .i64 a0_3, .int .i64 a0_4, .int .i64 a0_5, .int .i64 a0_6, .int .i64 a0_7, .int .i64 a0_8] 48 (0, 0)) (by (with_reducible repeat (first | refine zH ?_ _ | refine zI ?_ | refine zG ?_ _)); exact BK154.out) hb)
          have n2_ := Aside0.mk (zU (by repeat (first | (with_reducible first | exact HB.out | apply zF | apply zD | apply zE | refine zJ ?_ GE154.out) | exact HB.out)) hb)
          clear BK154
          clear HB
          have HO160 := n0_
          have BK154 := n1_
          have HB := n2_
          clear n0_ n1_ n2_
          clear hb ho18
          refine hK.out _ _ ⟨(zK BK154.out 0).trans rfl, (zK BK154.out 1).trans rfl, (zK BK154.out 2).trans rfl, (zK BK154.out 3).trans rfl, (zK BK154.out 4).trans rfl, (zK BK154.out 5).trans rfl, (zK BK154.out 6).trans rfl, (zK BK154.out 7).trans rfl, (zK BK154.out 8).trans rfl⟩ (fun hHeld => ?_)
          clear hK K
          refine norm_ (a' := ?_) ?_ ?_
          rotate_left
          ·show Act.put _ (some 32) _ = _
           simp only [Act.put, zA, zB, zC, i64_w, i32_w]
           rfl
          exact norm_ (by first | (simp only [putAll, Act.put, zA, zB, zC]; done) | (simp only [putAll, Act.put, zA, zB, zC]; rfl)) (hJ2_5_25 (v159) _ ⟨hHeld, (by (with_reducible repeat (first | apply zY | apply zX | apply zZ)); exact HO160.out), (by (with_reducible repeat (first | refine zH ?_ _ | refine zI ?_ | refine zG ?_ _)); exact BK154.out), (by repeat (first | (with_reducible first | exact HB.out | apply zF | apply zD | apply zE | refine zJ ?_ GE154.out) | exact HB.out))⟩)
         ·skip
          refine goes_ Try.func27 (by kernel_rfl) rfl #[.int .i64 a0_8] (by rfl) rfl rfl (by (try simp only [zO, zP, zQ]); first | done | rfl | (simp only [zS, zR]; rfl)) ?_
          with_reducible refine (ref01_Of.calls a0_8 t161 _ A8.out).mono ?_
          rintro e w17 ⟨rfl, hb⟩
          refine ⟨_, rfl, ?_⟩
          have n0_ := Aside0.mk (blk_below (g := gb154) (o := .cells #[.int .i64 a0_0, .int .i64 a0_1, .int .i64 a0_2, .int .i64 a0_3, .int .i64 a0_4, .int .i64 a0_5, .int .i64 a0_6, .int .i64 a0_7, .int .i64 a0_8] 48 (0, 0)) (by (with_reducible repeat (first | refine zH ?_ _ | refine zI ?_ | refine zG ?_ _)); exact BK154.out) hb)
          have n1_ := Aside0.mk (zU (by repeat (first | (with_reducible first | exact HB.out | apply zF | apply zD | apply zE | refine zJ ?_ GE154.out) | exact HB.out)) hb)
          clear BK154
          clear HB
          have BK154 := n0_
          have HB := n1_
          clear n0_ n1_
          (try clear hb)
          (try clear hb2)
          (try clear hk)
          (try clear hi)
          refine hK.out _ _ ⟨(zK BK154.out 0).trans rfl, (zK BK154.out 1).trans rfl, (zK BK154.out 2).trans rfl, (zK BK154.out 3).trans rfl, (zK BK154.out 4).trans rfl, (zK BK154.out 5).trans rfl, (zK BK154.out 6).trans rfl, (zK BK154.out 7).trans rfl, (zK BK154.out 8).trans rfl⟩ (fun hHeld => ?_)
          clear hK K
          refine norm_ (a' := ?_) ?_ ?_
          rotate_left
          ·show Act.put _ (some 37) _ = _
           simp only [Act.put, zA, zB, zC, i64_w, i32_w]
           rfl
          exact norm_ (by first | (simp only [putAll, Act.put, zA, zB, zC]; done) | (simp only [putAll, Act.put, zA, zB, zC]; rfl)) (hJ2_5_30 () _ ⟨hHeld, (by (with_reducible repeat (first | refine zH ?_ _ | refine zI ?_ | refine zG ?_ _)); exact BK154.out), (by repeat (first | (with_reducible first | exact HB.out | apply zF | apply zD | apply zE | refine zJ ?_ GE154.out) | exact HB.out))⟩)
       ·skip
        rintro v159 w18 ⟨hS_, h0_, h1_, h2_⟩
        have n0_ : Aside0 (Kd.R (Kd.int .u8) 5 w18 w.heap.size (fun _ => True) v159 y158) := ⟨h0_⟩
        have n1_ : Aside0 (w18.heap[gb154]? = some (.cells #[.int .i64 a0_0, .int .i64 a0_1, .int .i64 a0_2, .int .i64 a0_3, .int .i64 a0_4, .int .i64 a0_5, .int .i64 a0_6, .int .i64 a0_7, .int .i64 a0_8] 48 (0, 0))) := ⟨h1_⟩
        have n2_ : Aside0 (Below w.heap.size w w18) := ⟨h2_⟩
        clear BK154
        clear HB
        clear h0_ h1_ h2_
        have HO160 := n0_
        have BK154 := n1_
        have HB := n2_
        clear n0_ n1_ n2_
        have hHeld : w18.cell? ⟨gb154, 0, none⟩ = some (.int .i64 a0_0) ∧ w18.cell? ⟨gb154, 1, none⟩ = some (.int .i64 a0_1) ∧ w18.cell? ⟨gb154, 2, none⟩ = some (.int .i64 a0_2) ∧ w18.cell? ⟨gb154, 3, none⟩ = some (.int .i64 a0_3) ∧ w18.cell? ⟨gb154, 4, none⟩ = some (.int .i64 a0_4) ∧ w18.cell? ⟨gb154, 5, none⟩ = some (.int .i64 a0_5) ∧ w18.cell? ⟨gb154, 6, none⟩ = some (.int .i64 a0_6) ∧ w18.cell? ⟨gb154, 7, none⟩ = some (.int .i64 a0_7) ∧ w18.cell? ⟨gb154, 8, none⟩ = some (.int .i64 a0_8) := hS_
        refine norm_ (a' := ?_) ?_ ?_
        rotate_left
        ·simp only [putAll, Act.put, zA, zB, zC]
         rfl
        refine one_ (i := 5) (N := some 12) #[true, true, true, true, true, true, false, true, true, true, true, true, true, true, true, true, true, true, true, true, true, true, true, true, true, true, true, false, true, true, false, false, false, false] rfl rfl (one_of HT_.out (by kernel_rfl)) (by decide) (fun K hK => ?_)
        refine goes_ Try.func32 (by kernel_rfl) rfl #[.int .i64 a0_1] (by rfl) rfl rfl (by (try simp only [zO, zP, zQ]); first | done | rfl | (simp only [zS, zR]; rfl)) ?_
        with_reducible refine (ref23_six.calls a0_1 t157 _ A5.out).mono ?_
        rintro e w19 ⟨rfl, hb⟩
        refine ⟨_, rfl, ?_⟩
        have n0_ := Aside0.mk (Kd.R_below (by (with_reducible repeat (first | apply zY | apply zX | apply zZ)); exact HO160.out) hb)
        have n1_ := Aside0.mk (blk_below (g := gb154) (o := .cells #[.int .i64 a0_0, .int .i64 a0_1, .int .i64 a0_2, .int .i64 a0_3, .int .i64 a0_4, .int .i64 a0_5, .int .i64 a0_6, .int .i64 a0_7, .int .i64 a0_8] 48 (0, 0)) (by (with_reducible repeat (first | refine zH ?_ _ | refine zI ?_ | refine zG ?_ _)); exact BK154.out) hb)
        have n2_ := Aside0.mk (zU (by repeat (first | (with_reducible first | exact HB.out | apply zF | apply zD | apply zE | refine zJ ?_ GE154.out) | exact HB.out)) hb)
        clear HO160
        clear BK154
        clear HB
        have HO160 := n0_
        have BK154 := n1_
        have HB := n2_
        clear n0_ n1_ n2_
        (try clear hb)
        (try clear hb2)
        (try clear hk)
        (try clear hi)
        refine hK.out _ _ ⟨(zK BK154.out 0).trans rfl, (zK BK154.out 1).trans rfl, (zK BK154.out 2).trans rfl, (zK BK154.out 3).trans rfl, (zK BK154.out 4).trans rfl, (zK BK154.out 5).trans rfl, (zK BK154.out 6).trans rfl, (zK BK154.out 7).trans rfl, (zK BK154.out 8).trans rfl⟩ (fun hHeld => ?_)
        clear hK K
        refine norm_ (a' := ?_) ?_ ?_
        rotate_left
        ·show Act.put _ (some 12) _ = _
         simp only [Act.put, zA, zB, zC, i64_w, i32_w]
         rfl
        refine pure_ (i := 6) (N := some 13) (v := ?_) (a' := ?_) #[true, true, true, true, true, true, true, true, true, true, true, true, true, true, true, true, true, true, true, true, true, true, true, true, true, true, true, false, true, true, false, false, false, false] rfl rfl (any_of HT_.out (by kernel_rfl)) (fun _ _ _ h => h) (Or.inl ⟨by rfl, ?_⟩) ?_ ?_
        rotate_left
        ·intro w'
         go_simp
         with_reducible rfl
        rotate_left
        ·simp only [Act.put, zA, zB, zC, i64_w, i32_w]
         rfl
        refine pure_ (i := 27) (N := some 34) (v := ?_) (a' := ?_) #[true, true, true, true, true, true, true, true, true, true, true, true, true, true, true, true, true, true, true, true, true, true, true, true, true, true, true, true, true, true, false, false, false, false] rfl rfl (any_of HT_.out (by kernel_rfl)) (fun _ _ _ h => h) (Or.inl ⟨by rfl, ?_⟩) ?_ ?_
        rotate_left
        ·intro w'
         go_simp
         with_reducible rfl
        rotate_left
        ·simp only [Act.put, zA, zB, zC, i64_w, i32_w]
         rfl
        exact norm_ (by first | (simp only [putAll, Act.put, zA, zB, zC]; done) | (simp only [putAll, Act.put, zA, zB, zC]; rfl)) (hJ2_5_25_26 (v159) _ ⟨hHeld, (by (with_reducible repeat (first | apply zY | apply zX | apply zZ)); exact HO160.out), (by (with_reducible repeat (first | refine zH ?_ _ | refine zI ?_ | refine zG ?_ _)); exact BK154.out), (by repeat (first | (with_reducible first | exact HB.out | apply zF | apply zD | apply zE | refine zJ ?_ GE154.out) | exact HB.out))⟩)
      ·skip
       rintro _ w17 ⟨hS_, h0_, h1_⟩
       have n0_ : Aside0 (w17.heap[gb154]? = some (.cells #[.int .i64 a0_0, .int .i64 a0_1, .int .i64 a0_2, .int .i64 a0_3, .int .i64 a0_4, .int .i64 a0_5, .int .i64 a0_6, .int .i64 a0_7, .int .i64 a0_8] 48 (0, 0))) := ⟨h0_⟩
       have n1_ : Aside0 (Below w.heap.size w w17) := ⟨h1_⟩
       clear BK154
       clear HB
       clear h0_ h1_
       have BK154 := n0_
       have HB := n1_
       clear n0_ n1_
       have hHeld : w17.cell? ⟨gb154, 0, none⟩ = some (.int .i64 a0_0) ∧ w17.cell? ⟨gb154, 1, none⟩ = some (.int .i64 a0_1) ∧ w17.cell? ⟨gb154, 2, none⟩ = some (.int .i64 a0_2) ∧ w17.cell? ⟨gb154, 3, none⟩ = some (.int .i64 a0_3) ∧ w17.cell? ⟨gb154, 4, none⟩ = some (.int .i64 a0_4) ∧ w17.cell? ⟨gb154, 5, none⟩ = some (.int .i64 a0_5) ∧ w17.cell? ⟨gb154, 6, none⟩ = some (.int .i64 a0_6) ∧ w17.cell? ⟨gb154, 7, none⟩ = some (.int .i64 a0_7) ∧ w17.cell? ⟨gb154, 8, none⟩ = some (.int .i64 a0_8) := hS_
       refine norm_ (a' := ?_) ?_ ?_
       rotate_left
       ·simp only [putAll, Act.put, zA, zB, zC]
        rfl
       refine one_ (i := 25) (N := some 32) #[true, true, true, true, true, true, true, true, true, true, true, true, true, true, true, true, true, true, true, true, true, true, true, true, true, true, false, false, true, true, true, false, false, false] rfl rfl (one_of HT_.out (by kernel_rfl)) (by decide) (fun K hK => ?_)
       refine Kd.R_lit_step (Kd.int .u8) _ 5 ?hg (N := 32) ?hd (xs := ([(a0_2) % 256, (a0_3) % 256, (a0_4) % 256, (a0_5) % 256, (a0_6) % 256, (a0_7) % 256] : List Int)) (inner := [.int .u8 ((a0_2) % 256), .int .u8 ((a0_3) % 256), .int .u8 ((a0_4) % 256), .int .u8 ((a0_5) % 256), .int .u8 ((a0_6) % 256), .int .u8 ((a0_7) % 256)]) (ok := fun _ => True) (okp := fun _ => True) ?hr ?hp (fun _ hk => hk) trivial (Below.refl _ _) (Nat.le_refl _) (by simp) ?_; (case hd => rfl); (case hg => rfl); (case hr => first | (go_simp; done) | (go_simp; rfl)); (case hp => exact (Reps.one (show Kd.M (Kd.int .u8) _ _ _ ((a0_2) % 256) [.int .u8 ((a0_2) % 256)] from rfl) (Reps.one (show Kd.M (Kd.int .u8) _ _ _ ((a0_3) % 256) [.int .u8 ((a0_3) % 256)] from rfl) (Reps.one (show Kd.M (Kd.int .u8) _ _ _ ((a0_4) % 256) [.int .u8 ((a0_4) % 256)] from rfl) (Reps.one (show Kd.M (Kd.int .u8) _ _ _ ((a0_5) % 256) [.int .u8 ((a0_5) % 256)] from rfl) (Reps.one (show Kd.M (Kd.int .u8) _ _ _ ((a0_6) % 256) [.int .u8 ((a0_6) % 256)] from rfl) (Reps.one (show Kd.M (Kd.int .u8) _ _ _ ((a0_7) % 256) [.int .u8 ((a0_7) % 256)] from rfl) (Reps.none _ _))))))))
       intro v159 w18 ho19 hb hg_ hnew_
       clear hg_ hnew_
       (first | rw [← Ny158.out] at ho19 | (simp only [Int.reduceToNat] at ho19; rw [← Ny158.out] at ho19))
       have n0_ := Aside0.mk (Kd.R_lower ho19 (zT (by repeat (first | (with_reducible first | exact HB.out | apply zF | apply zD | apply zE | refine zJ ?_ GE154.out) | exact HB.out))))
       have n1_ := Aside0.mk (blk_below (g := gb154) (o := .cells #[.int .i64 a0_0, .int .i64 a0_1, .int .i64 a0_2, .int .i64 a0_3, .int .i64 a0_4, .int .i64 a0_5, .int .i64 a0_6, .int .i64 a0_7, .int .i64 a0_8] 48 (0, 0)) (by (with_reducible repeat (first | refine zH ?_ _ | refine zI ?_ | refine zG ?_ _)); exact BK154.out) hb)
       have n2_ := Aside0.mk (zU (by repeat (first | (with_reducible first | exact HB.out | apply zF | apply zD | apply zE | refine zJ ?_ GE154.out) | exact HB.out)) hb)
       clear BK154
       clear HB
       have HO160 := n0_
       have BK154 := n1_
       have HB := n2_
       clear n0_ n1_ n2_
       clear hb ho19
       refine hK.out _ _ ⟨(zK BK154.out 0).trans rfl, (zK BK154.out 1).trans rfl, (zK BK154.out 2).trans rfl, (zK BK154.out 3).trans rfl, (zK BK154.out 4).trans rfl, (zK BK154.out 5).trans rfl, (zK BK154.out 6).trans rfl, (zK BK154.out 7).trans rfl, (zK BK154.out 8).trans rfl⟩ (fun hHeld => ?_)
       clear hK K
       refine norm_ (a' := ?_) ?_ ?_
       rotate_left
       ·show Act.put _ (some 32) _ = _
        simp only [Act.put, zA, zB, zC, i64_w, i32_w]
        rfl
       exact norm_ (by first | (simp only [putAll, Act.put, zA, zB, zC]; done) | (simp only [putAll, Act.put, zA, zB, zC]; rfl)) (hJ2_5_25_30 (v159) _ ⟨hHeld, (by (with_reducible repeat (first | apply zY | apply zX | apply zZ)); exact HO160.out), (by (with_reducible repeat (first | refine zH ?_ _ | refine zI ?_ | refine zG ?_ _)); exact BK154.out), (by repeat (first | (with_reducible first | exact HB.out | apply zF | apply zD | apply zE | refine zJ ?_ GE154.out) | exact HB.out))⟩)
     ·skip
      rintro v159 w18 ⟨hS_, h0_, h1_, h2_⟩
      have n0_ : Aside0 (Kd.R (Kd.int .u8) 5 w18 w.heap.size (fun _ => True) v159 y158) := ⟨h0_⟩
      have n1_ : Aside0 (w18.heap[gb154]? = some (.cells #[.int .i64 a0_0, .int .i64 a0_1, .int .i64 a0_2, .int .i64 a0_3, .int .i64 a0_4, .int .i64 a0_5, .int .i64 a0_6, .int .i64 a0_7, .int .i64 a0_8] 48 (0, 0))) := ⟨h1_⟩
      have n2_ : Aside0 (Below w.heap.size w w18) := ⟨h2_⟩
      clear BK154
      clear HB
      clear h0_ h1_ h2_
      have HO160 := n0_
      have BK154 := n1_
      have HB := n2_
      clear n0_ n1_ n2_
      have hHeld : w18.cell? ⟨gb154, 0, none⟩ = some (.int .i64 a0_0) ∧ w18.cell? ⟨gb154, 1, none⟩ = some (.int .i64 a0_1) ∧ w18.cell? ⟨gb154, 2, none⟩ = some (.int .i64 a0_2) ∧ w18.cell? ⟨gb154, 3, none⟩ = some (.int .i64 a0_3) ∧ w18.cell? ⟨gb154, 4, none⟩ = some (.int .i64 a0_4) ∧ w18.cell? ⟨gb154, 5, none⟩ = some (.int .i64 a0_5) ∧ w18.cell? ⟨gb154, 6, none⟩ = some (.int .i64 a0_6) ∧ w18.cell? ⟨gb154, 7, none⟩ = some (.int .i64 a0_7) ∧ w18.cell? ⟨gb154, 8, none⟩ = some (.int .i64 a0_8) := hS_
      refine norm_ (a' := ?_) ?_ ?_
      rotate_left
      ·simp only [putAll, Act.put, zA, zB, zC]
       rfl
      refine two_ (i := 26) (j := 30) (Ni := some 33) (Nj := some 37) #[true, true, true, true, true, true, true, true, true, true, true, true, true, true, true, true, true, true, true, true, true, true, true, true, true, true, true, false, true, true, false, false, false, false] #[true, true, true, true, true, true, true, true, true, true, true, true, true, true, true, true, true, true, true, true, true, true, true, true, true, true, false, false, true, true, true, false, false, false] rfl rfl rfl rfl (two_of HT_.out (by kernel_rfl)) (by decide) (by decide) (fun K hK => ?_) (fun K hK => ?_)
      ·skip
       have hcv19 := own_string (P := Try.prog) Try.underlying57 Try.underlying5 Try.underlying9 (Kd.own_of_R HO160.out)
       refine value_ (w1 := ?_) (v := ?_) (by rfl) rfl ?_ ?_
       rotate_left 2
       ·go_simp
        constructor
        ·rfl
        ·rfl
       clear hcv19
       refine hK.out _ _ ⟨(zK BK154.out 0).trans rfl, (zK BK154.out 1).trans rfl, (zK BK154.out 2).trans rfl, (zK BK154.out 3).trans rfl, (zK BK154.out 4).trans rfl, (zK BK154.out 5).trans rfl, (zK BK154.out 6).trans rfl, (zK BK154.out 7).trans rfl, (zK BK154.out 8).trans rfl⟩ (fun hHeld => ?_)
       clear hK K
       refine norm_ (a' := ?_) ?_ ?_
       rotate_left
       ·show Act.put _ (some 33) _ = _
        simp only [Act.put, zA, zB, zC, i64_w, i32_w]
        rfl
       refine pure_ (i := 27) (N := some 34) (v := ?_) (a' := ?_) #[true, true, true, true, true, true, true, true, true, true, true, true, true, true, true, true, true, true, true, true, true, true, true, true, true, true, true, true, true, true, false, false, false, false] rfl rfl (any_of HT_.out (by kernel_rfl)) (fun _ _ _ h => h) (Or.inl ⟨by rfl, ?_⟩) ?_ ?_
       rotate_left
       ·intro w'
        go_simp
        with_reducible rfl
       rotate_left
       ·simp only [Act.put, zA, zB, zC, i64_w, i32_w]
        rfl
       exact norm_ (by first | (simp only [putAll, Act.put, zA, zB, zC]; done) | (simp only [putAll, Act.put, zA, zB, zC]; rfl)) (hJ2_5_25_26 (v159) _ ⟨hHeld, (by (with_reducible repeat (first | apply zY | apply zX | apply zZ)); exact HO160.out), (by (with_reducible repeat (first | refine zH ?_ _ | refine zI ?_ | refine zG ?_ _)); exact BK154.out), (by repeat (first | (with_reducible first | exact HB.out | apply zF | apply zD | apply zE | refine zJ ?_ GE154.out) | exact HB.out))⟩)
      ·skip
       refine goes_ Try.func27 (by kernel_rfl) rfl #[.int .i64 a0_8] (by rfl) rfl rfl (by (try simp only [zO, zP, zQ]); first | done | rfl | (simp only [zS, zR]; rfl)) ?_
       with_reducible refine (ref01_Of.calls a0_8 t161 _ A8.out).mono ?_
       rintro e w19 ⟨rfl, hb⟩
       refine ⟨_, rfl, ?_⟩
       have n0_ := Aside0.mk (Kd.R_below (by (with_reducible repeat (first | apply zY | apply zX | apply zZ)); exact HO160.out) hb)
       have n1_ := Aside0.mk (blk_below (g := gb154) (o := .cells #[.int .i64 a0_0, .int .i64 a0_1, .int .i64 a0_2, .int .i64 a0_3, .int .i64 a0_4, .int .i64 a0_5, .int .i64 a0_6, .int .i64 a0_7, .int .i64 a0_8] 48 (0, 0)) (by (with_reducible repeat (first | refine zH ?_ _ | refine zI ?_ | refine zG ?_ _)); exact BK154.out) hb)
       have n2_ := Aside0.mk (zU (by repeat (first | (with_reducible first | exact HB.out | apply zF | apply zD | apply zE | refine zJ ?_ GE154.out) | exact HB.out)) hb)
       clear HO160
       clear BK154
       clear HB
       have HO160 := n0_
       have BK154 := n1_
       have HB := n2_
       clear n0_ n1_ n2_
       (try clear hb)
       (try clear hb2)
       (try clear hk)
       (try clear hi)
       refine hK.out _ _ ⟨(zK BK154.out 0).trans rfl, (zK BK154.out 1).trans rfl, (zK BK154.out 2).trans rfl, (zK BK154.out 3).trans rfl, (zK BK154.out 4).trans rfl, (zK BK154.out 5).trans rfl, (zK BK154.out 6).trans rfl, (zK BK154.out 7).trans rfl, (zK BK154.out 8).trans rfl⟩ (fun hHeld => ?_)
       clear hK K
       refine norm_ (a' := ?_) ?_ ?_
       rotate_left
       ·show Act.put _ (some 37) _ = _
        simp only [Act.put, zA, zB, zC, i64_w, i32_w]
        rfl
       exact norm_ (by first | (simp only [putAll, Act.put, zA, zB, zC]; done) | (simp only [putAll, Act.put, zA, zB, zC]; rfl)) (hJ2_5_25_30 (v159) _ ⟨hHeld, (by (with_reducible repeat (first | apply zY | apply zX | apply zZ)); exact HO160.out), (by (with_reducible repeat (first | refine zH ?_ _ | refine zI ?_ | refine zG ?_ _)); exact BK154.out), (by repeat (first | (with_reducible first | exact HB.out | apply zF | apply zD | apply zE | refine zJ ?_ GE154.out) | exact HB.out))⟩)
    ·skip
     rintro v159 w19 ⟨hS_, h0_, h1_, h2_⟩
     have n0_ : Aside0 (Kd.R (Kd.int .u8) 5 w19 w.heap.size (fun _ => True) v159 y158) := ⟨h0_⟩
     have n1_ : Aside0 (w19.heap[gb154]? = some (.cells #[.int .i64 a0_0, .int .i64 a0_1, .int .i64 a0_2, .int .i64 a0_3, .int .i64 a0_4, .int .i64 a0_5, .int .i64 a0_6, .int .i64 a0_7, .int .i64 a0_8] 48 (0, 0))) := ⟨h1_⟩
     have n2_ : Aside0 (Below w.heap.size w w19) := ⟨h2_⟩
     clear BK154
     clear HB
     clear h0_ h1_ h2_
     have HO160 := n0_
     have BK154 := n1_
     have HB := n2_
     clear n0_ n1_ n2_
     have hHeld : w19.cell? ⟨gb154, 0, none⟩ = some (.int .i64 a0_0) ∧ w19.cell? ⟨gb154, 1, none⟩ = some (.int .i64 a0_1) ∧ w19.cell? ⟨gb154, 2, none⟩ = some (.int .i64 a0_2) ∧ w19.cell? ⟨gb154, 3, none⟩ = some (.int .i64 a0_3) ∧ w19.cell? ⟨gb154, 4, none⟩ = some (.int .i64 a0_4) ∧ w19.cell? ⟨gb154, 5, none⟩ = some (.int .i64 a0_5) ∧ w19.cell? ⟨gb154, 6, none⟩ = some (.int .i64 a0_6) ∧ w19.cell? ⟨gb154, 7, none⟩ = some (.int .i64 a0_7) ∧ w19.cell? ⟨gb154, 8, none⟩ = some (.int .i64 a0_8) := hS_
     refine norm_ (a' := ?_) ?_ ?_
     rotate_left
     ·simp only [putAll, Act.put, zA, zB, zC]
      rfl
     refine one_ (i := 26) (N := some 33) #[true, true, true, true, true, true, true, true, true, true, true, true, true, true, true, true, true, true, true, true, true, true, true, true, true, true, true, false, true, true, true, false, false, false] rfl rfl (one_of HT_.out (by kernel_rfl)) (by decide) (fun K hK => ?_)
     have hcv20 := own_string (P := Try.prog) Try.underlying57 Try.underlying5 Try.underlying9 (Kd.own_of_R HO160.out)
     refine value_ (w1 := ?_) (v := ?_) (by rfl) rfl ?_ ?_
     rotate_left 2
     ·go_simp
      constructor
      ·rfl
      ·rfl
     clear hcv20
     refine hK.out _ _ ⟨(zK BK154.out 0).trans rfl, (zK BK154.out 1).trans rfl, (zK BK154.out 2).trans rfl, (zK BK154.out 3).trans rfl, (zK BK154.out 4).trans rfl, (zK BK154.out 5).trans rfl, (zK BK154.out 6).trans rfl, (zK BK154.out 7).trans rfl, (zK BK154.out 8).trans rfl⟩ (fun hHeld => ?_)
     clear hK K
     refine norm_ (a' := ?_) ?_ ?_
     rotate_left
     ·show Act.put _ (some 33) _ = _
      simp only [Act.put, zA, zB, zC, i64_w, i32_w]
      rfl
     refine pure_ (i := 27) (N := some 34) (v := ?_) (a' := ?_) #[true, true, true, true, true, true, true, true, true, true, true, true, true, true, true, true, true, true, true, true, true, true, true, true, true, true, true, true, true, true, true, false, false, false] rfl rfl (any_of HT_.out (by kernel_rfl)) (fun _ _ _ h => h) (Or.inl ⟨by rfl, ?_⟩) ?_ ?_
     rotate_left
     ·intro w'
      go_simp
      with_reducible rfl
     rotate_left
     ·simp only [Act.put, zA, zB, zC, i64_w, i32_w]
      rfl
     exact norm_ (by first | (simp only [putAll, Act.put, zA, zB, zC]; done) | (simp only [putAll, Act.put, zA, zB, zC]; rfl)) (hJ2_5_25_26_30 (v159) _ ⟨hHeld, (by (with_reducible repeat (first | apply zY | apply zX | apply zZ)); exact HO160.out), (by (with_reducible repeat (first | refine zH ?_ _ | refine zI ?_ | refine zG ?_ _)); exact BK154.out), (by repeat (first | (with_reducible first | exact HB.out | apply zF | apply zD | apply zE | refine zJ ?_ GE154.out) | exact HB.out))⟩)
   ·skip
    rintro v159 w19 ⟨hS_, h0_, h1_, h2_⟩
    have n0_ : Aside0 (Kd.R (Kd.int .u8) 5 w19 w.heap.size (fun _ => True) v159 y158) := ⟨h0_⟩
    have n1_ : Aside0 (w19.heap[gb154]? = some (.cells #[.int .i64 a0_0, .int .i64 a0_1, .int .i64 a0_2, .int .i64 a0_3, .int .i64 a0_4, .int .i64 a0_5, .int .i64 a0_6, .int .i64 a0_7, .int .i64 a0_8] 48 (0, 0))) := ⟨h1_⟩
    have n2_ : Aside0 (Below w.heap.size w w19) := ⟨h2_⟩
    clear BK154
    clear HB
    clear h0_ h1_ h2_
    have HO160 := n0_
    have BK154 := n1_
    have HB := n2_
    clear n0_ n1_ n2_
    have hHeld : w19.cell? ⟨gb154, 0, none⟩ = some (.int .i64 a0_0) ∧ w19.cell? ⟨gb154, 1, none⟩ = some (.int .i64 a0_1) ∧ w19.cell? ⟨gb154, 2, none⟩ = some (.int .i64 a0_2) ∧ w19.cell? ⟨gb154, 3, none⟩ = some (.int .i64 a0_3) ∧ w19.cell? ⟨gb154, 4, none⟩ = some (.int .i64 a0_4) ∧ w19.cell? ⟨gb154, 5, none⟩ = some (.int .i64 a0_5) ∧ w19.cell? ⟨gb154, 6, none⟩ = some (.int .i64 a0_6) ∧ w19.cell? ⟨gb154, 7, none⟩ = some (.int .i64 a0_7) ∧ w19.cell? ⟨gb154, 8, none⟩ = some (.int .i64 a0_8) := hS_
    refine norm_ (a' := ?_) ?_ ?_
    rotate_left
    ·simp only [putAll, Act.put, zA, zB, zC]
     rfl
    refine one_ (i := 30) (N := some 37) #[true, true, true, true, true, true, true, true, true, true, true, true, true, true, true, true, true, true, true, true, true, true, true, true, true, true, true, true, true, true, true, false, false, false] rfl rfl (one_of HT_.out (by kernel_rfl)) (by decide) (fun K hK => ?_)
    refine goes_ Try.func27 (by kernel_rfl) rfl #[.int .i64 a0_8] (by rfl) rfl rfl (by (try simp only [zO, zP, zQ]); first | done | rfl | (simp only [zS, zR]; rfl)) ?_
    with_reducible refine (ref01_Of.calls a0_8 t161 _ A8.out).mono ?_
    rintro e w20 ⟨rfl, hb⟩
    refine ⟨_, rfl, ?_⟩
    have n0_ := Aside0.mk (Kd.R_below (by (with_reducible repeat (first | apply zY | apply zX | apply zZ)); exact HO160.out) hb)
    have n1_ := Aside0.mk (blk_below (g := gb154) (o := .cells #[.int .i64 a0_0, .int .i64 a0_1, .int .i64 a0_2, .int .i64 a0_3, .int .i64 a0_4, .int .i64 a0_5, .int .i64 a0_6, .int .i64 a0_7, .int .i64 a0_8] 48 (0, 0)) (by (with_reducible repeat (first | refine zH ?_ _ | refine zI ?_ | refine zG ?_ _)); exact BK154.out) hb)
    have n2_ := Aside0.mk (zU (by repeat (first | (with_reducible first | exact HB.out | apply zF | apply zD | apply zE | refine zJ ?_ GE154.out) | exact HB.out)) hb)
    clear HO160
    clear BK154
    clear HB
    have HO160 := n0_
    have BK154 := n1_
    have HB := n2_
    clear n0_ n1_ n2_
    (try clear hb)
    (try clear hb2)
    (try clear hk)
    (try clear hi)
    refine hK.out _ _ ⟨(zK BK154.out 0).trans rfl, (zK BK154.out 1).trans rfl, (zK BK154.out 2).trans rfl, (zK BK154.out 3).trans rfl, (zK BK154.out 4).trans rfl, (zK BK154.out 5).trans rfl, (zK BK154.out 6).trans rfl, (zK BK154.out 7).trans rfl, (zK BK154.out 8).trans rfl⟩ (fun hHeld => ?_)
    clear hK K
    refine norm_ (a' := ?_) ?_ ?_
    rotate_left
    ·show Act.put _ (some 37) _ = _
     simp only [Act.put, zA, zB, zC, i64_w, i32_w]
     rfl
    exact norm_ (by first | (simp only [putAll, Act.put, zA, zB, zC]; done) | (simp only [putAll, Act.put, zA, zB, zC]; rfl)) (hJ2_5_25_26_30 (v159) _ ⟨hHeld, (by (with_reducible repeat (first | apply zY | apply zX | apply zZ)); exact HO160.out), (by (with_reducible repeat (first | refine zH ?_ _ | refine zI ?_ | refine zG ?_ _)); exact BK154.out), (by repeat (first | (with_reducible first | exact HB.out | apply zF | apply zD | apply zE | refine zJ ?_ GE154.out) | exact HB.out))⟩)
  rintro v159 w20 ⟨hS_, h0_, h1_, h2_⟩
  have n0_ : Aside0 (Kd.R (Kd.int .u8) 5 w20 w.heap.size (fun _ => True) v159 y158) := ⟨h0_⟩
  have n1_ : Aside0 (w20.heap[gb154]? = some (.cells #[.int .i64 a0_0, .int .i64 a0_1, .int .i64 a0_2, .int .i64 a0_3, .int .i64 a0_4, .int .i64 a0_5, .int .i64 a0_6, .int .i64 a0_7, .int .i64 a0_8] 48 (0, 0))) := ⟨h1_⟩
  have n2_ : Aside0 (Below w.heap.size w w20) := ⟨h2_⟩
  clear BK154
  clear HB
  clear h0_ h1_ h2_
  have HO160 := n0_
  have BK154 := n1_
  have HB := n2_
  clear n0_ n1_ n2_
  have hHeld : w20.cell? ⟨gb154, 0, none⟩ = some (.int .i64 a0_0) ∧ w20.cell? ⟨gb154, 1, none⟩ = some (.int .i64 a0_1) ∧ w20.cell? ⟨gb154, 2, none⟩ = some (.int .i64 a0_2) ∧ w20.cell? ⟨gb154, 3, none⟩ = some (.int .i64 a0_3) ∧ w20.cell? ⟨gb154, 4, none⟩ = some (.int .i64 a0_4) ∧ w20.cell? ⟨gb154, 5, none⟩ = some (.int .i64 a0_5) ∧ w20.cell? ⟨gb154, 6, none⟩ = some (.int .i64 a0_6) ∧ w20.cell? ⟨gb154, 7, none⟩ = some (.int .i64 a0_7) ∧ w20.cell? ⟨gb154, 8, none⟩ = some (.int .i64 a0_8) := hS_
  refine norm_ (a' := ?_) ?_ ?_
  rotate_left
  ·simp only [putAll, Act.put, zA, zB, zC]
   rfl
  refine pure_ (i := 31) (N := some 38) (v := ?_) (a' := ?_) #[true, true, true, true, true, true, true, true, true, true, true, true, true, true, true, true, true, true, true, true, true, true, true, true, true, true, true, true, true, true, true, true, false, false] rfl rfl (any_of HT_.out (by kernel_rfl)) (fun _ _ _ h => h) (Or.inl ⟨by rfl, ?_⟩) ?_ ?_
  rotate_left
  ·intro w'
   go_simp
   with_reducible rfl
  rotate_left
  ·simp only [Act.put, zA, zB, zC, i64_w, i32_w]
   rfl
  refine pure_ (i := 32) (N := some 2) (v := ?_) (a' := ?_) #[true, true, true, true, true, true, true, true, true, true, true, true, true, true, true, true, true, true, true, true, true, true, true, true, true, true, true, true, true, true, true, true, true, false] rfl rfl (any_of HT_.out (by kernel_rfl)) (fun _ _ _ h => h) (Or.inl ⟨by rfl, ?_⟩) ?_ ?_
  rotate_left
  ·intro w'
   go_simp
   with_reducible rfl
  rotate_left
  ·simp only [Act.put, zA, zB, zC, i64_w, i32_w]
   rfl
  refine pure_ (i := 33) (N := some 3) (v := ?_) (a' := ?_) #[true, true, true, true, true, true, true, true, true, true, true, true, true, true, true, true, true, true, true, true, true, true, true, true, true, true, true, true, true, true, true, true, true, true] rfl rfl (any_of HT_.out (by kernel_rfl)) (fun _ _ _ h => h) (Or.inl ⟨by rfl, ?_⟩) ?_ ?_
  rotate_left
  ·intro w'
   go_simp
   with_reducible rfl
  rotate_left
  ·simp only [Act.put, zA, zB, zC, i64_w, i32_w]
   rfl
  refine done_ (done_of HT_.out (by kernel_rfl)) ?_
  try go_wp2
  go_ret2
  exact ⟨by first | rfl | (simp [errW_none, errW_some] <;> rfl) | (simp [*, errW_none, errW_some] <;> rfl), by repeat (first | (with_reducible first | exact HB.out | apply zF | apply zD | apply zE | refine zJ ?_ GE154.out) | exact HB.out)⟩
 ·replace c3 := Bool.eq_false_iff.mpr c3
  subst c3
  have H1 : (some ((⟨#[]⟩ : ByteArray), false)) = some (r1, r2) := by rw [if_neg (show ¬ (false = true) by decide)] at H; exact H
  clear H
  have H := H1
  clear H1
  simp only [Option.some.injEq, Prod.mk.injEq] at H
  obtain ⟨rfl, rfl⟩ := H
  go_enter Try.func19, Try.ntmps19
  go_wp2_with (first | ((with_reducible refine gate_dst (N := 1) rfl ?_); refine box_event ?hg (N := 1) ?hd (cs := #[.int .i64 a0_0, .int .i64 a0_1, .int .i64 a0_2, .int .i64 a0_3, .int .i64 a0_4, .int .i64 a0_5, .int .i64 a0_6, .int .i64 a0_7, .int .i64 a0_8]) (t := 48) ?hr ?_; (case hd => rfl); (case hg => rfl); (case hr => first | (go_simp; done) | (go_simp; rfl)); intro gb154 hg w21 hbox hb; have n0_ := Aside0.mk (zU (by repeat (first | (with_reducible first | exact HB.out | apply zF | apply zD | apply zE) | exact HB.out)) hb); have n1_ := Aside0.mk (hbox); have n2_ := Aside0.mk ((by rw [hg]; exact (zT (by repeat (first | (with_reducible first | exact HB.out | apply zF | apply zD | apply zE) | exact HB.out))) : w.heap.size ≤ gb154)); have n3_ := Aside0.mk ((by rw [hg]; exact (zT (by repeat (first | (with_reducible first | exact HB.out | apply zF | apply zD | apply zE) | exact HB.out))) : w.heap.size ≤ gb154)); clear HB; have HB := n0_; have BK154 := n1_; have GW154 := n2_; have GE154 := n3_; clear n0_ n1_ n2_ n3_; clear hb hbox hg; have hcz22_0 : w21.cell? ⟨gb154, 0, none⟩ = some (.int .i64 a0_0) := (zK BK154.out 0).trans rfl; have hcz22_1 : w21.cell? ⟨gb154, 1, none⟩ = some (.int .i64 a0_1) := (zK BK154.out 1).trans rfl; have hcz22_2 : w21.cell? ⟨gb154, 2, none⟩ = some (.int .i64 a0_2) := (zK BK154.out 2).trans rfl; have hcz22_3 : w21.cell? ⟨gb154, 3, none⟩ = some (.int .i64 a0_3) := (zK BK154.out 3).trans rfl; have hcz22_4 : w21.cell? ⟨gb154, 4, none⟩ = some (.int .i64 a0_4) := (zK BK154.out 4).trans rfl; have hcz22_5 : w21.cell? ⟨gb154, 5, none⟩ = some (.int .i64 a0_5) := (zK BK154.out 5).trans rfl; have hcz22_6 : w21.cell? ⟨gb154, 6, none⟩ = some (.int .i64 a0_6) := (zK BK154.out 6).trans rfl; have hcz22_7 : w21.cell? ⟨gb154, 7, none⟩ = some (.int .i64 a0_7) := (zK BK154.out 7).trans rfl; have hcz22_8 : w21.cell? ⟨gb154, 8, none⟩ = some (.int .i64 a0_8) := (zK BK154.out 8).trans rfl; have hfz22_0 := zL BK154.out 0; have hfz22_1 := zL BK154.out 1; have hfz22_2 := zL BK154.out 2; have hfz22_3 := zL BK154.out 3; have hfz22_4 := zL BK154.out 4; have hfz22_5 := zL BK154.out 5; have hfz22_6 := zL BK154.out 6; have hfz22_7 := zL BK154.out 7; have hfz22_8 := zL BK154.out 8) | ((with_reducible refine gate_callee (f := 31) rfl ?_); refine goesL_ (some 5) rfl rfl Try.func31 (by kernel_rfl) rfl #[.agg #[.int .i64 a0_0, .int .i64 a0_1, .int .i64 a0_2, .int .i64 a0_3, .int .i64 a0_4, .int .i64 a0_5, .int .i64 a0_6, .int .i64 a0_7, .int .i64 a0_8]] rfl (by (try simp only [zO, zP, zQ]); first | done | rfl | (simp only [zS, zR]; rfl)) ?_; (with_reducible refine (ref23_Right.calls a0_0 a0_1 a0_2 a0_3 a0_4 a0_5 a0_6 a0_7 a0_8 false _ A2.out).mono ?_); rintro e w23 ⟨rfl, hb⟩; refine ⟨_, rfl, ?_⟩; have n0_ := Aside0.mk (blk_below (g := gb154) (o := .cells #[.int .i64 a0_0, .int .i64 a0_1, .int .i64 a0_2, .int .i64 a0_3, .int .i64 a0_4, .int .i64 a0_5, .int .i64 a0_6, .int .i64 a0_7, .int .i64 a0_8] 48 (0, 0)) (by (with_reducible repeat (first | refine zH ?_ _ | refine zI ?_ | refine zG ?_ _)); exact BK154.out) hb); have n1_ := Aside0.mk (zU (by repeat (first | (with_reducible first | exact HB.out | apply zF | apply zD | apply zE | refine zJ ?_ GE154.out) | exact HB.out)) hb); clear BK154; clear HB; have BK154 := n0_; have HB := n1_; clear n0_ n1_; (try clear hb); (try clear hb2); (try clear hk); (try clear hi)))
  go_ret2
  exact ⟨by first | rfl | (simp [errW_none, errW_some] <;> rfl) | (simp [*, errW_none, errW_some] <;> rfl), by repeat (first | (with_reducible first | exact HB.out | apply zF | apply zD | apply zE | refine zJ ?_ GE154.out) | exact HB.out)⟩

end Go.Proofs.Ytfapfpkijeaapaa.P

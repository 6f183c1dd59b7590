-- Written by a program of this session (wip/mkprint.py). Not trusted: Lean checks it.
import Derived.Test.YtfapfpkijeaapaaP0
import Derived.Test.YtfapfpkijeaapaaP7
namespace Go.Proofs.Ytfapfpkijeaapaa.P
open Go.RowKit Go.Proofs.YtfapfpkijeaapaaW.PrintWords Go.Proofs.YtfapfpkijeaapaaW.PrintLast Go.Proofs.YtfapfpkijeaapaaW.PrintMore
attribute [local go_sem] max2_int min2_int max_two min_two max_three min_three max_four min_four   -- for this text's walks alone
set_option linter.unusedVariables false
set_option linter.unusedSimpArgs false

/-! ### ref08_Right: function 26 -/
def ref08_Right.f (a0_0 : Int) (a0_1 : Int) (a0_2 : ByteArray) : Option (Bool) := if a0_0 ≥ 0 then (if a0_0 ≤ 65535 then (if a0_1 ≥ 0 then (if a0_1 ≤ 255 then (if (a0_2.size : Int) ≥ 1 then (some (decide ((a0_2.size : Int) ≤ 253))) else (some false)) else (some false)) else (some false)) else (some false)) else (some false)
set_option maxHeartbeats 8000000 in
set_option maxRecDepth 100000 in
theorem ref08_Right.calls (a0_0 : Int) (a0_1 : Int) (a0_2 : ByteArray) (r : Bool) (w : World) (h : ref08_Right.f a0_0 a0_1 a0_2 = some r) :
 Calls Try.prog 26 #[.agg #[.int .i64 a0_0, .int .i64 a0_1, .string a0_2]] w fun e w' => e = .returned (.bool r) ∧ Below w.heap.size w w' := by
 have hu38 := Try.underlying38
 have HB := Aside0.mk (Below.refl w.heap.size w)
 have H : (if a0_0 ≥ 0 then (if a0_0 ≤ 65535 then (if a0_1 ≥ 0 then (if a0_1 ≤ 255 then (if (a0_2.size : Int) ≥ 1 then (some (decide ((a0_2.size : Int) ≤ 253))) else (some false)) else (some false)) else (some false)) else (some false)) else (some false)) = some r := h
 clear h
 by_cases c2 : a0_0 ≥ 0
 ·rw [if_pos c2] at H
  have c2b0 : decide (0 ≤ a0_0) = true := zW c2
  clear c2
  by_cases c3 : a0_0 ≤ 65535
  ·rw [if_pos c3] at H
   have c3b0 : decide (a0_0 ≤ 65535) = true := zW c3
   clear c3
   by_cases c4 : a0_1 ≥ 0
   ·rw [if_pos c4] at H
    have c4b0 : decide (0 ≤ a0_1) = true := zW c4
    clear c4
    by_cases c5 : a0_1 ≤ 255
    ·rw [if_pos c5] at H
     have c5b0 : decide (a0_1 ≤ 255) = true := zW c5
     clear c5
     by_cases c6 : (a0_2.size : Int) ≥ 1
     ·rw [if_pos c6] at H
      have c6b0 : decide (1 ≤ (a0_2.size : Int)) = true := zW c6
      have c6b1 : decide (1 ≤ a0_2.size) = true := zW (by omega)
      clear c6
      obtain rfl := Option.some.inj H
      go_enter Try.func26, Try.ntmps26
      go_wp2_with (first | ((with_reducible refine gate_dst (N := 1) rfl ?_); (try (refine gate_guard (by rfl) ?_; dsimp only)); refine box_event ?hg (N := 1) ?hd (cs := #[.int .i64 a0_0, .int .i64 a0_1, .string a0_2]) (t := 38) ?hr ?_; (case hd => rfl); (case hg => rfl); (case hr => first | (go_simp; done) | (go_simp; rfl)); intro gb355 hg w7 hbox hb; have n0_ := Aside0.mk (zU (by repeat (first | (with_reducible first | exact HB.out | apply zF | apply zD | apply zE) | exact HB.out)) hb); have n1_ := Aside0.mk (hbox); have n2_ := Aside0.mk ((by rw [hg]; exact (zT (by repeat (first | (with_reducible first | exact HB.out | apply zF | apply zD | apply zE) | exact HB.out))) : w.heap.size ≤ gb355)); have n3_ := Aside0.mk ((by rw [hg]; exact (zT (by repeat (first | (with_reducible first | exact HB.out | apply zF | apply zD | apply zE) | exact HB.out))) : w.heap.size ≤ gb355)); clear HB; have HB := n0_; have BK355 := n1_; have GW355 := n2_; have GE355 := n3_; clear n0_ n1_ n2_ n3_; clear hb hbox hg; have hcz8_0 : w7.cell? ⟨gb355, 0, none⟩ = some (.int .i64 a0_0) := (zK BK355.out 0).trans rfl; have hcz8_1 : w7.cell? ⟨gb355, 1, none⟩ = some (.int .i64 a0_1) := (zK BK355.out 1).trans rfl; have hcz8_2 : w7.cell? ⟨gb355, 2, none⟩ = some (.string a0_2) := (zK BK355.out 2).trans rfl; have hfz8_0 := zL BK355.out 0; have hfz8_1 := zL BK355.out 1; have hfz8_2 := zL BK355.out 2))
      go_ret
      exact ⟨by first | rfl | (simp [errW_none, errW_some] <;> rfl) | (simp [*, errW_none, errW_some] <;> rfl), by repeat (first | (with_reducible first | exact HB.out | apply zF | apply zD | apply zE | refine zJ ?_ GE355.out) | exact HB.out)⟩
     ·rw [if_neg c6] at H
      have c6b0 : decide (1 ≤ (a0_2.size : Int)) = false := decide_eq_false c6
      have c6b1 : decide (1 ≤ a0_2.size) = false := decide_eq_false (by omega)
      clear c6
      obtain rfl := Option.some.inj H
      go_enter Try.func26, Try.ntmps26
      go_wp2_with (first | ((with_reducible refine gate_dst (N := 1) rfl ?_); (try (refine gate_guard (by rfl) ?_; dsimp only)); refine box_event ?hg (N := 1) ?hd (cs := #[.int .i64 a0_0, .int .i64 a0_1, .string a0_2]) (t := 38) ?hr ?_; (case hd => rfl); (case hg => rfl); (case hr => first | (go_simp; done) | (go_simp; rfl)); intro gb355 hg w9 hbox hb; have n0_ := Aside0.mk (zU (by repeat (first | (with_reducible first | exact HB.out | apply zF | apply zD | apply zE) | exact HB.out)) hb); have n1_ := Aside0.mk (hbox); have n2_ := Aside0.mk ((by rw [hg]; exact (zT (by repeat (first | (with_reducible first | exact HB.out | apply zF | apply zD | apply zE) | exact HB.out))) : w.heap.size ≤ gb355)); have n3_ := Aside0.mk ((by rw [hg]; exact (zT (by repeat (first | (with_reducible first | exact HB.out | apply zF | apply zD | apply zE) | exact HB.out))) : w.heap.size ≤ gb355)); clear HB; have HB := n0_; have BK355 := n1_; have GW355 := n2_; have GE355 := n3_; clear n0_ n1_ n2_ n3_; clear hb hbox hg; have hcz10_0 : w9.cell? ⟨gb355, 0, none⟩ = some (.int .i64 a0_0) := (zK BK355.out 0).trans rfl; have hcz10_1 : w9.cell? ⟨gb355, 1, none⟩ = some (.int .i64 a0_1) := (zK BK355.out 1).trans rfl; have hcz10_2 : w9.cell? ⟨gb355, 2, none⟩ = some (.string a0_2) := (zK BK355.out 2).trans rfl; have hfz10_0 := zL BK355.out 0; have hfz10_1 := zL BK355.out 1; have hfz10_2 := zL BK355.out 2))
      go_ret
      exact ⟨by first | rfl | (simp [errW_none, errW_some] <;> rfl) | (simp [*, errW_none, errW_some] <;> rfl), by repeat (first | (with_reducible first | exact HB.out | apply zF | apply zD | apply zE | refine zJ ?_ GE355.out) | exact HB.out)⟩
    ·rw [if_neg c5] at H
     have c5b0 : decide (a0_1 ≤ 255) = false := decide_eq_false c5
     clear c5
     obtain rfl := Option.some.inj H
     go_enter Try.func26, Try.ntmps26
     go_wp2_with (first | ((with_reducible refine gate_dst (N := 1) rfl ?_); (try (refine gate_guard (by rfl) ?_; dsimp only)); refine box_event ?hg (N := 1) ?hd (cs := #[.int .i64 a0_0, .int .i64 a0_1, .string a0_2]) (t := 38) ?hr ?_; (case hd => rfl); (case hg => rfl); (case hr => first | (go_simp; done) | (go_simp; rfl)); intro gb355 hg w11 hbox hb; have n0_ := Aside0.mk (zU (by repeat (first | (with_reducible first | exact HB.out | apply zF | apply zD | apply zE) | exact HB.out)) hb); have n1_ := Aside0.mk (hbox); have n2_ := Aside0.mk ((by rw [hg]; exact (zT (by repeat (first | (with_reducible first | exact HB.out | apply zF | apply zD | apply zE) | exact HB.out))) : w.heap.size ≤ gb355)); have n3_ := Aside0.mk ((by rw [hg]; exact (zT (by repeat (first | (with_reducible first | exact HB.out | apply zF | apply zD | apply zE) | exact HB.out))) : w.heap.size ≤ gb355)); clear HB; have HB := n0_; have BK355 := n1_; have GW355 := n2_; have GE355 := n3_; clear n0_ n1_ n2_ n3_; clear hb hbox hg; have hcz12_0 : w11.cell? ⟨gb355, 0, none⟩ = some (.int .i64 a0_0) := (zK BK355.out 0).trans rfl; have hcz12_1 : w11.cell? ⟨gb355, 1, none⟩ = some (.int .i64 a0_1) := (zK BK355.out 1).trans rfl; have hcz12_2 : w11.cell? ⟨gb355, 2, none⟩ = some (.string a0_2) := (zK BK355.out 2).trans rfl; have hfz12_0 := zL BK355.out 0; have hfz12_1 := zL BK355.out 1; have hfz12_2 := zL BK355.out 2))
     go_ret
     exact ⟨by first | rfl | (simp [errW_none, errW_some] <;> rfl) | (simp [*, errW_none, errW_some] <;> rfl), by repeat (first | (with_reducible first | exact HB.out | apply zF | apply zD | apply zE | refine zJ ?_ GE355.out) | exact HB.out)⟩
   ·rw [if_neg c4] at H
    have c4b0 : decide (0 ≤ a0_1) = false := decide_eq_false c4
    clear c4
    obtain rfl := Option.some.inj H
    go_enter Try.func26, Try.ntmps26
    go_wp2_with (first | ((with_reducible refine gate_dst (N := 1) rfl ?_); (try (refine gate_guard (by rfl) ?_; dsimp only)); refine box_event ?hg (N := 1) ?hd (cs := #[.int .i64 a0_0, .int .i64 a0_1, .string a0_2]) (t := 38) ?hr ?_; (case hd => rfl); (case hg => rfl); (case hr => first | (go_simp; done) | (go_simp; rfl)); intro gb355 hg w13 hbox hb; have n0_ := Aside0.mk (zU (by repeat (first | (with_reducible first | exact HB.out | apply zF | apply zD | apply zE) | exact HB.out)) hb); have n1_ := Aside0.mk (hbox); have n2_ := Aside0.mk ((by rw [hg]; exact (zT (by repeat (first | (with_reducible first | exact HB.out | apply zF | apply zD | apply zE) | exact HB.out))) : w.heap.size ≤ gb355)); have n3_ := Aside0.mk ((by rw [hg]; exact (zT (by repeat (first | (with_reducible first | exact HB.out | apply zF | apply zD | apply zE) | exact HB.out))) : w.heap.size ≤ gb355)); clear HB; have HB := n0_; have BK355 := n1_; have GW355 := n2_; have GE355 := n3_; clear n0_ n1_ n2_ n3_; clear hb hbox hg; have hcz14_0 : w13.cell? ⟨gb355, 0, none⟩ = some (.int .i64 a0_0) := (zK BK355.out 0).trans rfl; have hcz14_1 : w13.cell? ⟨gb355, 1, none⟩ = some (.int .i64 a0_1) := (zK BK355.out 1).trans rfl; have hcz14_2 : w13.cell? ⟨gb355, 2, none⟩ = some (.string a0_2) := (zK BK355.out 2).trans rfl; have hfz14_0 := zL BK355.out 0; have hfz14_1 := zL BK355.out 1; have hfz14_2 := zL BK355.out 2))
    go_ret
    exact ⟨by first | rfl | (simp [errW_none, errW_some] <;> rfl) | (simp [*, errW_none, errW_some] <;> rfl), by repeat (first | (with_reducible first | exact HB.out | apply zF | apply zD | apply zE | refine zJ ?_ GE355.out) | exact HB.out)⟩
  ·rw [if_neg c3] at H
   have c3b0 : decide (a0_0 ≤ 65535) = false := decide_eq_false c3
   clear c3
   obtain rfl := Option.some.inj H
   go_enter Try.func26, Try.ntmps26
   go_wp2_with (first | ((with_reducible refine gate_dst (N := 1) rfl ?_); (try (refine gate_guard (by rfl) ?_; dsimp only)); refine box_event ?hg (N := 1) ?hd (cs := #[.int .i64 a0_0, .int .i64 a0_1, .string a0_2]) (t := 38) ?hr ?_; (case hd => rfl); (case hg => rfl); (case hr => first | (go_simp; done) | (go_simp; rfl)); intro gb355 hg w15 hbox hb; have n0_ := Aside0.mk (zU (by repeat (first | (with_reducible first | exact HB.out | apply zF | apply zD | apply zE) | exact HB.out)) hb); have n1_ := Aside0.mk (hbox); have n2_ := Aside0.mk ((by rw [hg]; exact (zT (by repeat (first | (with_reducible first | exact HB.out | apply zF | apply zD | apply zE) | exact HB.out))) : w.heap.size ≤ gb355)); have n3_ := Aside0.mk ((by rw [hg]; exact (zT (by repeat (first | (with_reducible first | exact HB.out | apply zF | apply zD | apply zE) | exact HB.out))) : w.heap.size ≤ gb355)); clear HB; have HB := n0_; have BK355 := n1_; have GW355 := n2_; have GE355 := n3_; clear n0_ n1_ n2_ n3_; clear hb hbox hg; have hcz16_0 : w15.cell? ⟨gb355, 0, none⟩ = some (.int .i64 a0_0) := (zK BK355.out 0).trans rfl; have hcz16_1 : w15.cell? ⟨gb355, 1, none⟩ = some (.int .i64 a0_1) := (zK BK355.out 1).trans rfl; have hcz16_2 : w15.cell? ⟨gb355, 2, none⟩ = some (.string a0_2) := (zK BK355.out 2).trans rfl; have hfz16_0 := zL BK355.out 0; have hfz16_1 := zL BK355.out 1; have hfz16_2 := zL BK355.out 2))
   go_ret
   exact ⟨by first | rfl | (simp [errW_none, errW_some] <;> rfl) | (simp [*, errW_none, errW_some] <;> rfl), by repeat (first | (with_reducible first | exact HB.out | apply zF | apply zD | apply zE | refine zJ ?_ GE355.out) | exact HB.out)⟩
 ·rw [if_neg c2] at H
  have c2b0 : decide (0 ≤ a0_0) = false := decide_eq_false c2
  clear c2
  obtain rfl := Option.some.inj H
  go_enter Try.func26, Try.ntmps26
  go_wp2_with (first | ((with_reducible refine gate_dst (N := 1) rfl ?_); (try (refine gate_guard (by rfl) ?_; dsimp only)); refine box_event ?hg (N := 1) ?hd (cs := #[.int .i64 a0_0, .int .i64 a0_1, .string a0_2]) (t := 38) ?hr ?_; (case hd => rfl); (case hg => rfl); (case hr => first | (go_simp; done) | (go_simp; rfl)); intro gb355 hg w17 hbox hb; have n0_ := Aside0.mk (zU (by repeat (first | (with_reducible first | exact HB.out | apply zF | apply zD | apply zE) | exact HB.out)) hb); have n1_ := Aside0.mk (hbox); have n2_ := Aside0.mk ((by rw [hg]; exact (zT (by repeat (first | (with_reducible first | exact HB.out | apply zF | apply zD | apply zE) | exact HB.out))) : w.heap.size ≤ gb355)); have n3_ := Aside0.mk ((by rw [hg]; exact (zT (by repeat (first | (with_reducible first | exact HB.out | apply zF | apply zD | apply zE) | exact HB.out))) : w.heap.size ≤ gb355)); clear HB; have HB := n0_; have BK355 := n1_; have GW355 := n2_; have GE355 := n3_; clear n0_ n1_ n2_ n3_; clear hb hbox hg; have hcz18_0 : w17.cell? ⟨gb355, 0, none⟩ = some (.int .i64 a0_0) := (zK BK355.out 0).trans rfl; have hcz18_1 : w17.cell? ⟨gb355, 1, none⟩ = some (.int .i64 a0_1) := (zK BK355.out 1).trans rfl; have hcz18_2 : w17.cell? ⟨gb355, 2, none⟩ = some (.string a0_2) := (zK BK355.out 2).trans rfl; have hfz18_0 := zL BK355.out 0; have hfz18_1 := zL BK355.out 1; have hfz18_2 := zL BK355.out 2))
  go_ret
  exact ⟨by first | rfl | (simp [errW_none, errW_some] <;> rfl) | (simp [*, errW_none, errW_some] <;> rfl), by repeat (first | (with_reducible first | exact HB.out | apply zF | apply zD | apply zE | refine zJ ?_ GE355.out) | exact HB.out)⟩

/-! ### ref08_Put: function 12 -/
def ref08_Put.f (a0_0 : Int) (a0_1 : Int) (a0_2 : ByteArray) : Option (ByteArray × Bool) := (ref08_Right.f a0_0 a0_1 a0_2).bind fun t357 => (if t357 = true then ((ref01_Of.f a0_0).bind fun t358 => (if t358.size + 2 ≤ 9223372036854775807 then ((ref01_Of.f (wrap64 (1 + (a0_2.size : Int)))).bind fun t359 => (if t358.size + 2 + t359.size ≤ 9223372036854775807 then ((some (([(a0_1) % 256] : List Int) : List Int)).bind fun y360 => (if t358.size + 2 + t359.size + ((strOfNums y360).size) ≤ 9223372036854775807 then (if t358.size + 2 + t359.size + ((strOfNums y360).size) + a0_2.size ≤ 9223372036854775807 then (some ((((t358 ++ (⟨#[0, 0]⟩ : ByteArray)) ++ t359) ++ (strOfNums y360)) ++ a0_2, true)) else (none)) else (none))) else (none))) else (none))) else (some ((⟨#[]⟩ : ByteArray), false)))
def ref08_Put.T3 : Bool × List (List Nat × List Nat) := (true, [([], []), ([0], [0]), ([1], [1]), ([2], [2]), ([], []), ([4], [4]), ([5], [5]), ([6], [6]), ([7, 2], [7]), ([3, 8], [3, 8]), ([], []), ([10], [10]), ([11], [11]), ([12], [12]), ([13], [13]), ([9, 14], [9, 14]), ([], []), ([16], [16]), ([15, 17], [15, 17]), ([18, 8, 0, 1, 2, 3, 4, 5, 6, 7, 8, 9, 10, 11, 12, 13, 14, 15, 16, 17, 18], [18]), ([19, 0, 1, 2, 3, 4, 5, 6, 7, 8, 9, 10, 11, 12, 13, 14, 15, 16, 17, 18, 19], [])])
def ref08_Put.B3 : List Nat := [0, 1, 3, 7, 0, 16, 48, 112, 247, 511, 0, 1024, 3072, 7168, 15360, 32767, 0, 65536, 262143, 524287, 1048575]
theorem ref08_Put.tab3 : rtab .any (opsOf Try.f12 3) = ref08_Put.T3 := by kernel_rfl
theorem ref08_Put.bits3 : waitsOk ref08_Put.T3.2 ref08_Put.B3 = true := by kernel_rfl
set_option maxHeartbeats 8000000 in
set_option maxRecDepth 100000 in
theorem ref08_Put.calls (a0_0 : Int) (a0_1 : Int) (a0_2 : ByteArray) (r1 : ByteArray) (r2 : Bool) (w : World) (h : ref08_Put.f a0_0 a0_1 a0_2 = some (r1, r2)) :
 Calls Try.prog 12 #[.agg #[.int .i64 a0_0, .int .i64 a0_1, .string a0_2]] w fun e w' => e = .returned (.tuple #[.string r1, .bool r2]) ∧ Below w.heap.size w w' := by
 have hu38 := Try.underlying38
 have HB := Aside0.mk (Below.refl w.heap.size w)
 have H : ((ref08_Right.f a0_0 a0_1 a0_2).bind fun t357 => (if t357 = true then ((ref01_Of.f a0_0).bind fun t358 => (if t358.size + 2 ≤ 9223372036854775807 then ((ref01_Of.f (wrap64 (1 + (a0_2.size : Int)))).bind fun t359 => (if t358.size + 2 + t359.size ≤ 9223372036854775807 then ((some (([(a0_1) % 256] : List Int) : List Int)).bind fun y360 => (if t358.size + 2 + t359.size + ((strOfNums y360).size) ≤ 9223372036854775807 then (if t358.size + 2 + t359.size + ((strOfNums y360).size) + a0_2.size ≤ 9223372036854775807 then (some ((((t358 ++ (⟨#[0, 0]⟩ : ByteArray)) ++ t359) ++ (strOfNums y360)) ++ a0_2, true)) else (none)) else (none))) else (none))) else (none))) else (some ((⟨#[]⟩ : ByteArray), false)))) = some (r1, r2) := h
 clear h
 replace H := Option.bind_eq_some_iff.mp H
 obtain ⟨t357, A20, H⟩ := H
 replace H : (if t357 = true then ((ref01_Of.f a0_0).bind fun t358 => (if t358.size + 2 ≤ 9223372036854775807 then ((ref01_Of.f (wrap64 (1 + (a0_2.size : Int)))).bind fun t359 => (if t358.size + 2 + t359.size ≤ 9223372036854775807 then ((some (([(a0_1) % 256] : List Int) : List Int)).bind fun y360 => (if t358.size + 2 + t359.size + ((strOfNums y360).size) ≤ 9223372036854775807 then (if t358.size + 2 + t359.size + ((strOfNums y360).size) + a0_2.size ≤ 9223372036854775807 then (some ((((t358 ++ (⟨#[0, 0]⟩ : ByteArray)) ++ t359) ++ (strOfNums y360)) ++ a0_2, true)) else (none)) else (none))) else (none))) else (none))) else (some ((⟨#[]⟩ : ByteArray), false))) = some (r1, r2) := H
 have A2 := Aside0.mk A20
 clear A20
 by_cases c3 : t357 = true
 ·subst c3
  have H1 : ((ref01_Of.f a0_0).bind fun t358 => (if t358.size + 2 ≤ 9223372036854775807 then ((ref01_Of.f (wrap64 (1 + (a0_2.size : Int)))).bind fun t359 => (if t358.size + 2 + t359.size ≤ 9223372036854775807 then ((some (([(a0_1) % 256] : List Int) : List Int)).bind fun y360 => (if t358.size + 2 + t359.size + ((strOfNums y360).size) ≤ 9223372036854775807 then (if t358.size + 2 + t359.size + ((strOfNums y360).size) + a0_2.size ≤ 9223372036854775807 then (some ((((t358 ++ (⟨#[0, 0]⟩ : ByteArray)) ++ t359) ++ (strOfNums y360)) ++ a0_2, true)) else (none)) else (none))) else (none))) else (none))) = some (r1, r2) := by rw [if_pos rfl] at H; exact H
  clear H
  have H := H1
  clear H1
  replace H := Option.bind_eq_some_iff.mp H
  obtain ⟨t358, A40, H⟩ := H
  replace H : (if t358.size + 2 ≤ 9223372036854775807 then ((ref01_Of.f (wrap64 (1 + (a0_2.size : Int)))).bind fun t359 => (if t358.size + 2 + t359.size ≤ 9223372036854775807 then ((some (([(a0_1) % 256] : List Int) : List Int)).bind fun y360 => (if t358.size + 2 + t359.size + ((strOfNums y360).size) ≤ 9223372036854775807 then (if t358.size + 2 + t359.size + ((strOfNums y360).size) + a0_2.size ≤ 9223372036854775807 then (some ((((t358 ++ (⟨#[0, 0]⟩ : ByteArray)) ++ t359) ++ (strOfNums y360)) ++ a0_2, true)) else (none)) else (none))) else (none))) else (none)) = some (r1, r2) := H
  have A4 := Aside0.mk A40
  clear A40
  by_cases c5 : t358.size + 2 ≤ 9223372036854775807
  rotate_left
  ·rw [if_neg c5] at H
   exact absurd H (by simp)
  rw [if_pos c5] at H
  have c5b0 := eq_true c5
  have c5b1 : decide (t358.size + 2 ≤ 9223372036854775807) = true := zW c5
  try have c5b2 : (9223372036854775807 < t358.size + 2) = False := eq_false (Nat.not_lt.2 c5)
  replace H := Option.bind_eq_some_iff.mp H
  obtain ⟨t359, A60, H⟩ := H
  replace H : (if t358.size + 2 + t359.size ≤ 9223372036854775807 then ((some (([(a0_1) % 256] : List Int) : List Int)).bind fun y360 => (if t358.size + 2 + t359.size + ((strOfNums y360).size) ≤ 9223372036854775807 then (if t358.size + 2 + t359.size + ((strOfNums y360).size) + a0_2.size ≤ 9223372036854775807 then (some ((((t358 ++ (⟨#[0, 0]⟩ : ByteArray)) ++ t359) ++ (strOfNums y360)) ++ a0_2, true)) else (none)) else (none))) else (none)) = some (r1, r2) := H
  have A6 := Aside0.mk A60
  clear A60
  by_cases c7 : t358.size + 2 + t359.size ≤ 9223372036854775807
  rotate_left
  ·rw [if_neg c7] at H
   exact absurd H (by simp)
  rw [if_pos c7] at H
  have c7b0 := eq_true c7
  have c7b1 : decide (t358.size + 2 + t359.size ≤ 9223372036854775807) = true := zW c7
  try have c7b2 : (9223372036854775807 < t358.size + 2 + t359.size) = False := eq_false (Nat.not_lt.2 c7)
  obtain ⟨y360, hy360⟩ : ∃ y_ : List Int, y_ = (([(a0_1) % 256] : List Int)) := ⟨_, rfl⟩
  replace H : (if t358.size + 2 + t359.size + ((strOfNums y360).size) ≤ 9223372036854775807 then (if t358.size + 2 + t359.size + ((strOfNums y360).size) + a0_2.size ≤ 9223372036854775807 then (some ((((t358 ++ (⟨#[0, 0]⟩ : ByteArray)) ++ t359) ++ (strOfNums y360)) ++ a0_2, true)) else (none)) else (none)) = some (r1, r2) := by first | (rw [hy360]; with_reducible exact H) | (have H2_ := (Option.bind_some _ _).symm.trans H; rw [hy360]; with_reducible exact H2_) | (have H2_ := (Option.bind_some _ _).symm.trans H; with_reducible exact H2_) | with_reducible exact H | (rw [hy360]; exact H) | exact H
  have Ny360 := Aside0.mk hy360
  clear hy360
  by_cases c8 : t358.size + 2 + t359.size + ((strOfNums y360).size) ≤ 9223372036854775807
  rotate_left
  ·rw [if_neg c8] at H
   exact absurd H (by simp)
  rw [if_pos c8] at H
  have c8b0 := eq_true c8
  have c8b1 : decide (t358.size + 2 + t359.size + ((strOfNums y360).size) ≤ 9223372036854775807) = true := zW c8
  try have c8b2 : (9223372036854775807 < t358.size + 2 + t359.size + ((strOfNums y360).size)) = False := eq_false (Nat.not_lt.2 c8)
  by_cases c9 : t358.size + 2 + t359.size + ((strOfNums y360).size) + a0_2.size ≤ 9223372036854775807
  rotate_left
  ·rw [if_neg c9] at H
   exact absurd H (by simp)
  rw [if_pos c9] at H
  have c9b0 := eq_true c9
  have c9b1 : decide (t358.size + 2 + t359.size + ((strOfNums y360).size) + a0_2.size ≤ 9223372036854775807) = true := zW c9
  try have c9b2 : (9223372036854775807 < t358.size + 2 + t359.size + ((strOfNums y360).size) + a0_2.size) = False := eq_false (Nat.not_lt.2 c9)
  simp only [Option.some.injEq, Prod.mk.injEq] at H
  obtain ⟨rfl, rfl⟩ := H
  go_enter Try.func12, Try.ntmps12
  try go_wp2_with (first | ((with_reducible refine gate_dst (N := 1) rfl ?_); refine box_event ?hg (N := 1) ?hd (cs := #[.int .i64 a0_0, .int .i64 a0_1, .string a0_2]) (t := 38) ?hr ?_; (case hd => rfl); (case hg => rfl); (case hr => first | (go_simp; done) | (go_simp; rfl)); intro gb356 hg w10 hbox hb; have n0_ := Aside0.mk (zU (by repeat (first | (with_reducible first | exact HB.out | apply zF | apply zD | apply zE) | exact HB.out)) hb); have n1_ := Aside0.mk (hbox); have n2_ := Aside0.mk ((by rw [hg]; exact (zT (by repeat (first | (with_reducible first | exact HB.out | apply zF | apply zD | apply zE) | exact HB.out))) : w.heap.size ≤ gb356)); have n3_ := Aside0.mk ((by rw [hg]; exact (zT (by repeat (first | (with_reducible first | exact HB.out | apply zF | apply zD | apply zE) | exact HB.out))) : w.heap.size ≤ gb356)); clear HB; have HB := n0_; have BK356 := n1_; have GW356 := n2_; have GE356 := n3_; clear n0_ n1_ n2_ n3_; clear hb hbox hg; have hcz11_0 : w10.cell? ⟨gb356, 0, none⟩ = some (.int .i64 a0_0) := (zK BK356.out 0).trans rfl; have hcz11_1 : w10.cell? ⟨gb356, 1, none⟩ = some (.int .i64 a0_1) := (zK BK356.out 1).trans rfl; have hcz11_2 : w10.cell? ⟨gb356, 2, none⟩ = some (.string a0_2) := (zK BK356.out 2).trans rfl; have hfz11_0 := zL BK356.out 0; have hfz11_1 := zL BK356.out 1; have hfz11_2 := zL BK356.out 2) | ((with_reducible refine gate_callee (f := 26) rfl ?_); refine goesL_ (some 5) rfl rfl Try.func26 (by kernel_rfl) rfl #[.agg #[.int .i64 a0_0, .int .i64 a0_1, .string a0_2]] rfl (by (try simp only [zO, zP, zQ]); first | done | rfl | (simp only [zS, zR]; rfl)) ?_; (with_reducible refine (ref08_Right.calls a0_0 a0_1 a0_2 true _ A2.out).mono ?_); rintro e w12 ⟨rfl, hb⟩; refine ⟨_, rfl, ?_⟩; have n0_ := Aside0.mk (blk_below (g := gb356) (o := .cells #[.int .i64 a0_0, .int .i64 a0_1, .string a0_2] 38 (0, 0)) (by (with_reducible repeat (first | refine zH ?_ _ | refine zI ?_ | refine zG ?_ _)); exact BK356.out) hb); have n1_ := Aside0.mk (zU (by repeat (first | (with_reducible first | exact HB.out | apply zF | apply zD | apply zE | refine zJ ?_ GE356.out) | exact HB.out)) hb); clear BK356; clear HB; have BK356 := n0_; have HB := n1_; clear n0_ n1_; (try clear hb); (try clear hb2); (try clear hk); (try clear hi)))
  have n0_ := Aside0.mk (zI BK356.out)
  have n1_ := Aside0.mk (zE HB.out)
  clear BK356
  clear HB
  have BK356 := n0_
  have HB := n1_
  clear n0_ n1_
  refine start_ (n := 21) (S := fun w' => w'.cell? ⟨gb356, 0, none⟩ = some (.int .i64 a0_0) ∧ w'.cell? ⟨gb356, 1, none⟩ = some (.int .i64 a0_1) ∧ w'.cell? ⟨gb356, 2, none⟩ = some (.string a0_2)) (ds := []) #[false, false, false, false, false, false, false, false, false, false, false, false, false, false, false, false, false, false, false, false, false] (by kernel_rfl) rfl rfl ⟨(zK BK356.out 0).trans rfl, (zK BK356.out 1).trans rfl, (zK BK356.out 2).trans rfl⟩ (fun hHeld => ?_); refine with_tabW ref08_Put.tab3 ref08_Put.bits3 (fun HT_ HW_ => ?_)
  generalize w12.drew = w13 at BK356 HB hHeld ⊢
  refine pure_ (i := 0) (N := some 7) (v := ?_) (a' := ?_) #[true, false, false, false, false, false, false, false, false, false, false, false, false, false, false, false, false, false, false, false, false] rfl rfl (any_of HT_.out (by kernel_rfl)) (fun _ _ _ h => h) (Or.inl ⟨by rfl, ?_⟩) ?_ ?_
  rotate_left
  ·intro w'
   go_simp
   with_reducible rfl
  rotate_left
  ·simp only [Act.put, zA, zB, zC, i64_w, i32_w]
   rfl
  refine pure_ (i := 4) (N := some 11) (v := ?_) (a' := ?_) #[true, false, false, false, true, false, false, false, false, false, false, false, false, false, false, false, false, false, false, false, false] rfl rfl (any_of HT_.out (by kernel_rfl)) (fun _ _ _ h => h) (Or.inl ⟨by rfl, ?_⟩) ?_ ?_
  rotate_left
  ·intro w'
   go_simp
   with_reducible rfl
  rotate_left
  ·simp only [Act.put, zA, zB, zC, i64_w, i32_w]
   rfl
  refine pure_ (i := 10) (N := some 17) (v := ?_) (a' := ?_) #[true, false, false, false, true, false, false, false, false, false, true, false, false, false, false, false, false, false, false, false, false] rfl rfl (any_of HT_.out (by kernel_rfl)) (fun _ _ _ h => h) (Or.inl ⟨by rfl, ?_⟩) ?_ ?_
  rotate_left
  ·intro w'
   go_simp
   with_reducible rfl
  rotate_left
  ·simp only [Act.put, zA, zB, zC, i64_w, i32_w]
   rfl
  refine pure_ (i := 16) (N := some 23) (v := ?_) (a' := ?_) #[true, false, false, false, true, false, false, false, false, false, true, false, false, false, false, false, true, false, false, false, false] rfl rfl (any_of HT_.out (by kernel_rfl)) (fun _ _ _ h => h) (Or.inl ⟨by rfl, ?_⟩) ?_ ?_
  rotate_left
  ·intro w'
   go_simp
   with_reducible rfl
  rotate_left
  ·simp only [Act.put, zA, zB, zC, i64_w, i32_w]
   rfl
  refine take_ (i := 1) (N := some 8) (v := ?_) (a' := ?_) #[true, true, false, false, true, false, false, false, false, false, true, false, false, false, false, false, true, false, false, false, false] rfl rfl (take_ofW HT_.out HW_.out (by kernel_rfl)) (fun _ _ _ h => h) (Or.inl ⟨by rfl, ?_⟩) hHeld ?_ ?_
  rotate_left
  ·rintro w' ⟨s0, s1, s2⟩
   go_simp
   with_reducible rfl
  rotate_left
  ·simp only [Act.put, zA, zB, zC, i64_w, i32_w]
   rfl
  refine take_ (i := 5) (N := some 12) (v := ?_) (a' := ?_) #[true, true, false, false, true, true, false, false, false, false, true, false, false, false, false, false, true, false, false, false, false] rfl rfl (take_ofW HT_.out HW_.out (by kernel_rfl)) (fun _ _ _ h => h) (Or.inl ⟨by rfl, ?_⟩) hHeld ?_ ?_
  rotate_left
  ·rintro w' ⟨s0, s1, s2⟩
   go_simp
   with_reducible rfl
  rotate_left
  ·simp only [Act.put, zA, zB, zC, i64_w, i32_w]
   rfl
  refine pure_ (i := 6) (N := some 13) (v := ?_) (a' := ?_) #[true, true, false, false, true, true, true, false, false, false, true, false, false, false, false, false, true, false, false, false, false] rfl rfl (any_of HT_.out (by kernel_rfl)) (fun _ _ _ h => h) (Or.inl ⟨by rfl, ?_⟩) ?_ ?_
  rotate_left
  ·intro w'
   go_simp
   with_reducible rfl
  rotate_left
  ·simp only [Act.put, zA, zB, zC, i64_w, i32_w]
   rfl
  refine pure_ (i := 7) (N := some 14) (v := ?_) (a' := ?_) #[true, true, false, false, true, true, true, true, false, false, true, false, false, false, false, false, true, false, false, false, false] rfl rfl (any_of HT_.out (by kernel_rfl)) (fun _ _ _ h => h) (Or.inl ⟨by rfl, ?_⟩) ?_ ?_
  rotate_left
  ·intro w'
   go_simp
   with_reducible rfl
  rotate_left
  ·simp only [Act.put, zA, zB, zC, i64_w, i32_w]
   rfl
  refine take_ (i := 11) (N := some 18) (v := ?_) (a' := ?_) #[true, true, false, false, true, true, true, true, false, false, true, true, false, false, false, false, true, false, false, false, false] rfl rfl (take_ofW HT_.out HW_.out (by kernel_rfl)) (fun _ _ _ h => h) (Or.inl ⟨by rfl, ?_⟩) hHeld ?_ ?_
  rotate_left
  ·rintro w' ⟨s0, s1, s2⟩
   go_simp
   with_reducible rfl
  rotate_left
  ·simp only [Act.put, zA, zB, zC, i64_w, i32_w]
   rfl
  refine pure_ (i := 12) (N := some 19) (v := ?_) (a' := ?_) #[true, true, false, false, true, true, true, true, false, false, true, true, true, false, false, false, true, false, false, false, false] rfl rfl (any_of HT_.out (by kernel_rfl)) (fun _ _ _ h => h) (Or.inl ⟨by rfl, ?_⟩) ?_ ?_
  rotate_left
  ·intro w'
   go_simp
   with_reducible rfl
  rotate_left
  ·simp only [Act.put, zA, zB, zC, i64_w, i32_w]
   rfl
  refine take_ (i := 17) (N := some 24) (v := ?_) (a' := ?_) #[true, true, false, false, true, true, true, true, false, false, true, true, true, false, false, false, true, true, false, false, false] rfl rfl (take_ofW HT_.out HW_.out (by kernel_rfl)) (fun _ _ _ h => h) (Or.inl ⟨by rfl, ?_⟩) hHeld ?_ ?_
  rotate_left
  ·rintro w' ⟨s0, s1, s2⟩
   go_simp
   with_reducible rfl
  rotate_left
  ·simp only [Act.put, zA, zB, zC, i64_w, i32_w]
   rfl
  refine join_ (σ := Value) 4 #[true, true, true, true, true, true, true, true, true, true, true, true, true, true, true, false, true, true, false, false, false] (fun s_ => [(9, .string t358), (15, .string t359), (20, s_), (21, .string (strOfNums y360)), (10, .string (t358 ++ (⟨#[0, 0]⟩ : ByteArray))), (16, .string ((t358 ++ (⟨#[0, 0]⟩ : ByteArray)) ++ t359))]) (fun s_ w' => (w'.cell? ⟨gb356, 0, none⟩ = some (.int .i64 a0_0) ∧ w'.cell? ⟨gb356, 1, none⟩ = some (.int .i64 a0_1) ∧ w'.cell? ⟨gb356, 2, none⟩ = some (.string a0_2)) ∧ (Kd.R (Kd.int .u8) 5 w' w.heap.size (fun _ => True) s_ y360) ∧ (w'.heap[gb356]? = some (.cells #[.int .i64 a0_0, .int .i64 a0_1, .string a0_2] 38 (0, 0))) ∧ (Below w.heap.size w w')) ?_ ?_
  rotate_left
  ·intro hJ2_8_13_14
   refine join_ (σ := Value) 5 #[true, true, true, true, true, true, true, true, true, true, true, true, true, true, false, false, true, true, false, false, false] (fun s_ => [(9, .string t358), (15, .string t359), (20, s_), (10, .string (t358 ++ (⟨#[0, 0]⟩ : ByteArray))), (16, .string ((t358 ++ (⟨#[0, 0]⟩ : ByteArray)) ++ t359))]) (fun s_ w' => (w'.cell? ⟨gb356, 0, none⟩ = some (.int .i64 a0_0) ∧ w'.cell? ⟨gb356, 1, none⟩ = some (.int .i64 a0_1) ∧ w'.cell? ⟨gb356, 2, none⟩ = some (.string a0_2)) ∧ (Kd.R (Kd.int .u8) 5 w' w.heap.size (fun _ => True) s_ y360) ∧ (w'.heap[gb356]? = some (.cells #[.int .i64 a0_0, .int .i64 a0_1, .string a0_2] 38 (0, 0))) ∧ (Below w.heap.size w w')) ?_ ?_
   rotate_left
   ·intro hJ2_8_13
    refine join_ (σ := Value) 6 #[true, true, true, true, true, true, true, true, false, false, true, true, true, true, true, false, true, true, false, false, false] (fun s_ => [(9, .string t358), (20, s_), (21, .string (strOfNums y360)), (10, .string (t358 ++ (⟨#[0, 0]⟩ : ByteArray)))]) (fun s_ w' => (w'.cell? ⟨gb356, 0, none⟩ = some (.int .i64 a0_0) ∧ w'.cell? ⟨gb356, 1, none⟩ = some (.int .i64 a0_1) ∧ w'.cell? ⟨gb356, 2, none⟩ = some (.string a0_2)) ∧ (Kd.R (Kd.int .u8) 5 w' w.heap.size (fun _ => True) s_ y360) ∧ (w'.heap[gb356]? = some (.cells #[.int .i64 a0_0, .int .i64 a0_1, .string a0_2] 38 (0, 0))) ∧ (Below w.heap.size w w')) ?_ ?_
    rotate_left
    ·intro hJ2_13_14
     refine join_ (σ := Unit) 6 #[true, true, true, true, true, true, true, true, true, true, true, true, true, false, false, false, true, true, false, false, false] (fun s_ => [(9, .string t358), (15, .string t359), (10, .string (t358 ++ (⟨#[0, 0]⟩ : ByteArray))), (16, .string ((t358 ++ (⟨#[0, 0]⟩ : ByteArray)) ++ t359))]) (fun s_ w' => (w'.cell? ⟨gb356, 0, none⟩ = some (.int .i64 a0_0) ∧ w'.cell? ⟨gb356, 1, none⟩ = some (.int .i64 a0_1) ∧ w'.cell? ⟨gb356, 2, none⟩ = some (.string a0_2)) ∧ (w'.heap[gb356]? = some (.cells #[.int .i64 a0_0, .int .i64 a0_1, .string a0_2] 38 (0, 0))) ∧ (Below w.heap.size w w')) ?_ ?_
     rotate_left
     ·intro hJ2_8
      refine join_ (σ := Value) 7 #[true, true, true, true, true, true, true, true, false, false, true, true, true, true, false, false, true, true, false, false, false] (fun s_ => [(9, .string t358), (20, s_), (10, .string (t358 ++ (⟨#[0, 0]⟩ : ByteArray)))]) (fun s_ w' => (w'.cell? ⟨gb356, 0, none⟩ = some (.int .i64 a0_0) ∧ w'.cell? ⟨gb356, 1, none⟩ = some (.int .i64 a0_1) ∧ w'.cell? ⟨gb356, 2, none⟩ = some (.string a0_2)) ∧ (Kd.R (Kd.int .u8) 5 w' w.heap.size (fun _ => True) s_ y360) ∧ (w'.heap[gb356]? = some (.cells #[.int .i64 a0_0, .int .i64 a0_1, .string a0_2] 38 (0, 0))) ∧ (Below w.heap.size w w')) ?_ ?_
      rotate_left
      ·intro hJ2_13
       refine join_ (σ := Value) 8 #[true, true, false, false, true, true, true, true, false, false, true, true, true, true, true, false, true, true, false, false, false] (fun s_ => [(20, s_), (21, .string (strOfNums y360))]) (fun s_ w' => (w'.cell? ⟨gb356, 0, none⟩ = some (.int .i64 a0_0) ∧ w'.cell? ⟨gb356, 1, none⟩ = some (.int .i64 a0_1) ∧ w'.cell? ⟨gb356, 2, none⟩ = some (.string a0_2)) ∧ (Kd.R (Kd.int .u8) 5 w' w.heap.size (fun _ => True) s_ y360) ∧ (w'.heap[gb356]? = some (.cells #[.int .i64 a0_0, .int .i64 a0_1, .string a0_2] 38 (0, 0))) ∧ (Below w.heap.size w w')) ?_ ?_
       rotate_left
       ·intro hJ13_14
        refine join_ (σ := Unit) 8 #[true, true, true, true, true, true, true, true, false, false, true, true, true, false, false, false, true, true, false, false, false] (fun s_ => [(9, .string t358), (10, .string (t358 ++ (⟨#[0, 0]⟩ : ByteArray)))]) (fun s_ w' => (w'.cell? ⟨gb356, 0, none⟩ = some (.int .i64 a0_0) ∧ w'.cell? ⟨gb356, 1, none⟩ = some (.int .i64 a0_1) ∧ w'.cell? ⟨gb356, 2, none⟩ = some (.string a0_2)) ∧ (w'.heap[gb356]? = some (.cells #[.int .i64 a0_0, .int .i64 a0_1, .string a0_2] 38 (0, 0))) ∧ (Below w.heap.size w w')) ?_ ?_
        rotate_left
        ·intro hJ2
         refine join_ (σ := Value) 9 #[true, true, false, false, true, true, true, true, false, false, true, true, true, true, false, false, true, true, false, false, false] (fun s_ => [(20, s_)]) (fun s_ w' => (w'.cell? ⟨gb356, 0, none⟩ = some (.int .i64 a0_0) ∧ w'.cell? ⟨gb356, 1, none⟩ = some (.int .i64 a0_1) ∧ w'.cell? ⟨gb356, 2, none⟩ = some (.string a0_2)) ∧ (Kd.R (Kd.int .u8) 5 w' w.heap.size (fun _ => True) s_ y360) ∧ (w'.heap[gb356]? = some (.cells #[.int .i64 a0_0, .int .i64 a0_1, .string a0_2] 38 (0, 0))) ∧ (Below w.heap.size w w')) ?_ ?_
         rotate_left
         ·intro hJ13
          refine two_ (i := 2) (j := 13) (Ni := some 9) (Nj := some 20) #[true, true, true, false, true, true, true, true, false, false, true, true, true, false, false, false, true, true, false, false, false] #[true, true, false, false, true, true, true, true, false, false, true, true, true, true, false, false, true, true, false, false, false] rfl rfl rfl rfl (two_of HT_.out (by kernel_rfl)) (by decide) (by decide) (fun K hK => ?_) (fun K hK => ?_)
          ·skip
           refine goes_ Try.func27 (by kernel_rfl) rfl #[.int .i64 a0_0] (by rfl) rfl rfl (by (try simp only [zO, zP, zQ]); first | done | rfl | (simp only [zS, zR]; rfl)) ?_
           with_reducible refine (ref01_Of.calls a0_0 t358 _ A4.out).mono ?_
           rintro e w14 ⟨rfl, hb⟩
           refine ⟨_, rfl, ?_⟩
           have n0_ := Aside0.mk (blk_below (g := gb356) (o := .cells #[.int .i64 a0_0, .int .i64 a0_1, .string a0_2] 38 (0, 0)) (by (with_reducible repeat (first | refine zH ?_ _ | refine zI ?_ | refine zG ?_ _)); exact BK356.out) hb)
           have n1_ := Aside0.mk (zU (by repeat (first | (with_reducible first | exact HB.out | apply zF | apply zD | apply zE | refine zJ ?_ GE356.out) | exact HB.out)) hb)
           clear BK356
           clear HB
           have BK356 := n0_
           have HB := n1_
           clear n0_ n1_
           (try clear hb)
           (try clear hb2)
           (try clear hk)
           (try clear hi)
           refine hK.out _ _ ⟨(zK BK356.out 0).trans rfl, (zK BK356.out 1).trans rfl, (zK BK356.out 2).trans rfl⟩ (fun hHeld => ?_)
           clear hK K
           refine norm_ (a' := ?_) ?_ ?_
           rotate_left
           ·show Act.put _ (some 9) _ = _
            simp only [Act.put, zA, zB, zC, i64_w, i32_w]
            rfl
           refine pure_ (i := 3) (N := some 10) (v := ?_) (a' := ?_) #[true, true, true, true, true, true, true, true, false, false, true, true, true, false, false, false, true, true, false, false, false] rfl rfl (any_of HT_.out (by kernel_rfl)) (fun _ _ _ h => h) (Or.inl ⟨by rfl, ?_⟩) ?_ ?_
           rotate_left
           ·intro w'
            go_simp
            with_reducible rfl
           rotate_left
           ·simp only [Act.put, zA, zB, zC, i64_w, i32_w]
            rfl
           exact norm_ (by first | (simp only [putAll, Act.put, zA, zB, zC]; done) | (simp only [putAll, Act.put, zA, zB, zC]; rfl)) (hJ2 () _ ⟨hHeld, (by (with_reducible repeat (first | refine zH ?_ _ | refine zI ?_ | refine zG ?_ _)); exact BK356.out), (by repeat (first | (with_reducible first | exact HB.out | apply zF | apply zD | apply zE | refine zJ ?_ GE356.out) | exact HB.out))⟩)
          ·skip
           refine Kd.R_lit_step (Kd.int .u8) _ 5 ?hg (N := 20) ?hd (xs := ([(a0_1) % 256] : List Int)) (inner := [.int .u8 ((a0_1) % 256)]) (ok := fun _ => True) (okp := fun _ => True) ?hr ?hp (fun _ hk => hk) trivial (Below.refl _ _) (Nat.le_refl _) (by simp) ?_; (case hd => rfl); (case hg => rfl); (case hr => first | (go_simp; done) | (go_simp; rfl)); (case hp => exact (Reps.one (show Kd.M (Kd.int .u8) _ _ _ ((a0_1) % 256) [.int .u8 ((a0_1) % 256)] from rfl) (Reps.none _ _)))
           intro v361 w14 ho15 hb hg_ hnew_
           clear hg_ hnew_
           (first | rw [← Ny360.out] at ho15 | (simp only [Int.reduceToNat] at ho15; rw [← Ny360.out] at ho15))
           have n0_ := Aside0.mk (Kd.R_lower ho15 (zT (by repeat (first | (with_reducible first | exact HB.out | apply zF | apply zD | apply zE | refine zJ ?_ GE356.out) | exact HB.out))))
           have n1_ := Aside0.mk (blk_below (g := gb356) (o := .cells #[.int .i64 a0_0, .int .i64 a0_1, .string a0_2] 38 (0, 0)) (by (with_reducible repeat (first | refine zH ?_ _ | refine zI ?_ | refine zG ?_ _)); exact BK356.out) hb)
           have n2_ := Aside0.mk (zU (by repeat (first | (with_reducible first | exact HB.out | apply zF | apply zD | apply zE | refine zJ ?_ GE356.out) | exact HB.out)) hb)
           clear BK356
           clear HB
           have HO362 := n0_
           have BK356 := n1_
           have HB := n2_
           clear n0_ n1_ n2_
           clear hb ho15
           refine hK.out _ _ ⟨(zK BK356.out 0).trans rfl, (zK BK356.out 1).trans rfl, (zK BK356.out 2).trans rfl⟩ (fun hHeld => ?_)
           clear hK K
           refine norm_ (a' := ?_) ?_ ?_
           rotate_left
           ·show Act.put _ (some 20) _ = _
            simp only [Act.put, zA, zB, zC, i64_w, i32_w]
            rfl
           exact norm_ (by first | (simp only [putAll, Act.put, zA, zB, zC]; done) | (simp only [putAll, Act.put, zA, zB, zC]; rfl)) (hJ13 (v361) _ ⟨hHeld, (by (with_reducible repeat (first | apply zY | apply zX | apply zZ)); exact HO362.out), (by (with_reducible repeat (first | refine zH ?_ _ | refine zI ?_ | refine zG ?_ _)); exact BK356.out), (by repeat (first | (with_reducible first | exact HB.out | apply zF | apply zD | apply zE | refine zJ ?_ GE356.out) | exact HB.out))⟩)
         ·skip
          rintro v361 w16 ⟨hS_, h0_, h1_, h2_⟩
          have n0_ : Aside0 (Kd.R (Kd.int .u8) 5 w16 w.heap.size (fun _ => True) v361 y360) := ⟨h0_⟩
          have n1_ : Aside0 (w16.heap[gb356]? = some (.cells #[.int .i64 a0_0, .int .i64 a0_1, .string a0_2] 38 (0, 0))) := ⟨h1_⟩
          have n2_ : Aside0 (Below w.heap.size w w16) := ⟨h2_⟩
          clear BK356
          clear HB
          clear h0_ h1_ h2_
          have HO362 := n0_
          have BK356 := n1_
          have HB := n2_
          clear n0_ n1_ n2_
          have hHeld : w16.cell? ⟨gb356, 0, none⟩ = some (.int .i64 a0_0) ∧ w16.cell? ⟨gb356, 1, none⟩ = some (.int .i64 a0_1) ∧ w16.cell? ⟨gb356, 2, none⟩ = some (.string a0_2) := hS_
          refine norm_ (a' := ?_) ?_ ?_
          rotate_left
          ·simp only [putAll, Act.put, zA, zB, zC]
           rfl
          refine two_ (i := 2) (j := 14) (Ni := some 9) (Nj := some 21) #[true, true, true, false, true, true, true, true, false, false, true, true, true, true, false, false, true, true, false, false, false] #[true, true, false, false, true, true, true, true, false, false, true, true, true, true, true, false, true, true, false, false, false] rfl rfl rfl rfl (two_of HT_.out (by kernel_rfl)) (by decide) (by decide) (fun K hK => ?_) (fun K hK => ?_)
          ·skip
           refine goes_ Try.func27 (by kernel_rfl) rfl #[.int .i64 a0_0] (by rfl) rfl rfl (by (try simp only [zO, zP, zQ]); first | done | rfl | (simp only [zS, zR]; rfl)) ?_
           with_reducible refine (ref01_Of.calls a0_0 t358 _ A4.out).mono ?_
           rintro e w17 ⟨rfl, hb⟩
           refine ⟨_, rfl, ?_⟩
           have n0_ := Aside0.mk (Kd.R_below (by (with_reducible repeat (first | apply zY | apply zX | apply zZ)); exact HO362.out) hb)
           have n1_ := Aside0.mk (blk_below (g := gb356) (o := .cells #[.int .i64 a0_0, .int .i64 a0_1, .string a0_2] 38 (0, 0)) (by (with_reducible repeat (first | refine zH ?_ _ | refine zI ?_ | refine zG ?_ _)); exact BK356.out) hb)
           have n2_ := Aside0.mk (zU (by repeat (first | (with_reducible first | exact HB.out | apply zF | apply zD | apply zE | refine zJ ?_ GE356.out) | exact HB.out)) hb)
           clear HO362
           clear BK356
           clear HB
           have HO362 := n0_
           have BK356 := n1_
           have HB := n2_
           clear n0_ n1_ n2_
           (try clear hb)
           (try clear hb2)
           (try clear hk)
           (try clear hi)
           refine hK.out _ _ ⟨(zK BK356.out 0).trans rfl, (zK BK356.out 1).trans rfl, (zK BK356.out 2).trans rfl⟩ (fun hHeld => ?_)
           clear hK K
           refine norm_ (a' := ?_) ?_ ?_
           rotate_left
           ·show Act.put _ (some 9) _ = _
            simp only [Act.put, zA, zB, zC, i64_w, i32_w]
            rfl
           refine pure_ (i := 3) (N := some 10) (v := ?_) (a' := ?_) #[true, true, true, true, true, true, true, true, false, false, true, true, true, true, false, false, true, true, false, false, false] rfl rfl (any_of HT_.out (by kernel_rfl)) (fun _ _ _ h => h) (Or.inl ⟨by rfl, ?_⟩) ?_ ?_
           rotate_left
           ·intro w'
            go_simp
            with_reducible rfl
           rotate_left
           ·simp only [Act.put, zA, zB, zC, i64_w, i32_w]
            rfl
           exact norm_ (by first | (simp only [putAll, Act.put, zA, zB, zC]; done) | (simp only [putAll, Act.put, zA, zB, zC]; rfl)) (hJ2_13 (v361) _ ⟨hHeld, (by (with_reducible repeat (first | apply zY | apply zX | apply zZ)); exact HO362.out), (by (with_reducible repeat (first | refine zH ?_ _ | refine zI ?_ | refine zG ?_ _)); exact BK356.out), (by repeat (first | (with_reducible first | exact HB.out | apply zF | apply zD | apply zE | refine zJ ?_ GE356.out) | exact HB.out))⟩)
          ·skip
           have hcv17 := own_string (P := Try.prog) Try.underlying57 Try.underlying5 Try.underlying9 (Kd.own_of_R HO362.out)
           refine value_ (w1 := ?_) (v := ?_) (by rfl) rfl ?_ ?_
           rotate_left 2
           ·go_simp
            constructor
            ·rfl
            ·rfl
           clear hcv17
           refine hK.out _ _ ⟨(zK BK356.out 0).trans rfl, (zK BK356.out 1).trans rfl, (zK BK356.out 2).trans rfl⟩ (fun hHeld => ?_)
           clear hK K
           refine norm_ (a' := ?_) ?_ ?_
           rotate_left
           ·show Act.put _ (some 21) _ = _
            simp only [Act.put, zA, zB, zC, i64_w, i32_w]
            rfl
           exact norm_ (by first | (simp only [putAll, Act.put, zA, zB, zC]; done) | (simp only [putAll, Act.put, zA, zB, zC]; rfl)) (hJ13_14 (v361) _ ⟨hHeld, (by (with_reducible repeat (first | apply zY | apply zX | apply zZ)); exact HO362.out), (by (with_reducible repeat (first | refine zH ?_ _ | refine zI ?_ | refine zG ?_ _)); exact BK356.out), (by repeat (first | (with_reducible first | exact HB.out | apply zF | apply zD | apply zE | refine zJ ?_ GE356.out) | exact HB.out))⟩)
        ·skip
         rintro _ w15 ⟨hS_, h0_, h1_⟩
         have n0_ : Aside0 (w15.heap[gb356]? = some (.cells #[.int .i64 a0_0, .int .i64 a0_1, .string a0_2] 38 (0, 0))) := ⟨h0_⟩
         have n1_ : Aside0 (Below w.heap.size w w15) := ⟨h1_⟩
         clear BK356
         clear HB
         clear h0_ h1_
         have BK356 := n0_
         have HB := n1_
         clear n0_ n1_
         have hHeld : w15.cell? ⟨gb356, 0, none⟩ = some (.int .i64 a0_0) ∧ w15.cell? ⟨gb356, 1, none⟩ = some (.int .i64 a0_1) ∧ w15.cell? ⟨gb356, 2, none⟩ = some (.string a0_2) := hS_
         refine norm_ (a' := ?_) ?_ ?_
         rotate_left
         ·simp only [putAll, Act.put, zA, zB, zC]
          rfl
         refine two_ (i := 8) (j := 13) (Ni := some 15) (Nj := some 20) #[true, true, true, true, true, true, true, true, true, false, true, true, true, false, false, false, true, true, false, false, false] #[true, true, true, true, true, true, true, true, false, false, true, true, true, true, false, false, true, true, false, false, false] rfl rfl rfl rfl (two_of HT_.out (by kernel_rfl)) (by decide) (by decide) (fun K hK => ?_) (fun K hK => ?_)
         ·skip
          refine goes_ Try.func27 (by kernel_rfl) rfl #[.int .i64 (wrap64 (1 + (a0_2.size : Int)))] (by rfl) rfl rfl (by (try simp only [zO, zP, zQ]); first | done | rfl | (simp only [zS, zR]; rfl)) ?_
          with_reducible refine (ref01_Of.calls (wrap64 (1 + (a0_2.size : Int))) t359 _ A6.out).mono ?_
          rintro e w16 ⟨rfl, hb⟩
          refine ⟨_, rfl, ?_⟩
          have n0_ := Aside0.mk (blk_below (g := gb356) (o := .cells #[.int .i64 a0_0, .int .i64 a0_1, .string a0_2] 38 (0, 0)) (by (with_reducible repeat (first | refine zH ?_ _ | refine zI ?_ | refine zG ?_ _)); exact BK356.out) hb)
          have n1_ := Aside0.mk (zU (by repeat (first | (with_reducible first | exact HB.out | apply zF | apply zD | apply zE | refine zJ ?_ GE356.out) | exact HB.out)) hb)
          clear BK356
          clear HB
          have BK356 := n0_
          have HB := n1_
          clear n0_ n1_
          (try clear hb)
          (try clear hb2)
          (try clear hk)
          (try clear hi)
          refine hK.out _ _ ⟨(zK BK356.out 0).trans rfl, (zK BK356.out 1).trans rfl, (zK BK356.out 2).trans rfl⟩ (fun hHeld => ?_)
          clear hK K
          refine norm_ (a' := ?_) ?_ ?_
          rotate_left
          ·show Act.put _ (some 15) _ = _
           simp only [Act.put, zA, zB, zC, i64_w, i32_w]
           rfl
          refine pure_ (i := 9) (N := some 16) (v := ?_) (a' := ?_) #[true, true, true, true, true, true, true, true, true, true, true, true, true, false, false, false, true, true, false, false, false] rfl rfl (any_of HT_.out (by kernel_rfl)) (fun _ _ _ h => h) (Or.inl ⟨by rfl, ?_⟩) ?_ ?_
          rotate_left
          ·intro w'
           go_simp
           with_reducible rfl
          rotate_left
          ·simp only [Act.put, zA, zB, zC, i64_w, i32_w]
           rfl
          exact norm_ (by first | (simp only [putAll, Act.put, zA, zB, zC]; done) | (simp only [putAll, Act.put, zA, zB, zC]; rfl)) (hJ2_8 () _ ⟨hHeld, (by (with_reducible repeat (first | refine zH ?_ _ | refine zI ?_ | refine zG ?_ _)); exact BK356.out), (by repeat (first | (with_reducible first | exact HB.out | apply zF | apply zD | apply zE | refine zJ ?_ GE356.out) | exact HB.out))⟩)
         ·skip
          refine Kd.R_lit_step (Kd.int .u8) _ 5 ?hg (N := 20) ?hd (xs := ([(a0_1) % 256] : List Int)) (inner := [.int .u8 ((a0_1) % 256)]) (ok := fun _ => True) (okp := fun _ => True) ?hr ?hp (fun _ hk => hk) trivial (Below.refl _ _) (Nat.le_refl _) (by simp) ?_; (case hd => rfl); (case hg => rfl); (case hr => first | (go_simp; done) | (go_simp; rfl)); (case hp => exact (Reps.one (show Kd.M (Kd.int .u8) _ _ _ ((a0_1) % 256) [.int .u8 ((a0_1) % 256)] from rfl) (Reps.none _ _)))
          intro v361 w16 ho17 hb hg_ hnew_
          clear hg_ hnew_
          (first | rw [← Ny360.out] at ho17 | (simp only [Int.reduceToNat] at ho17; rw [← Ny360.out] at ho17))
          have n0_ := Aside0.mk (Kd.R_lower ho17 (zT (by repeat (first | (with_reducible first | exact HB.out | apply zF | apply zD | apply zE | refine zJ ?_ GE356.out) | exact HB.out))))
          have n1_ := Aside0.mk (blk_below (g := gb356) (o := .cells #[.int .i64 a0_0, .int .i64 a0_1, .string a0_2] 38 (0, 0)) (by (with_reducible repeat (first | refine zH ?_ _ | refine zI ?_ | refine zG ?_ _)); exact BK356.out) hb)
          have n2_ := Aside0.mk (zU (by repeat (first | (with_reducible first | exact HB.out | apply zF | apply zD | apply zE | refine zJ ?_ GE356.out) | exact HB.out)) hb)
          clear BK356
          clear HB
          have HO362 := n0_
          have BK356 := n1_
          have HB := n2_
          clear n0_ n1_ n2_
          clear hb ho17
          refine hK.out _ _ ⟨(zK BK356.out 0).trans rfl, (zK BK356.out 1).trans rfl, (zK BK356.out 2).trans rfl⟩ (fun hHeld => ?_)
          clear hK K
          refine norm_ (a' := ?_) ?_ ?_
          rotate_left
          ·show Act.put _ (some 20) _ = _
           simp only [Act.put, zA, zB, zC, i64_w, i32_w]
           rfl
          exact norm_ (by first | (simp only [putAll, Act.put, zA, zB, zC]; done) | (simp only [putAll, Act.put, zA, zB, zC]; rfl)) (hJ2_13 (v361) _ ⟨hHeld, (by (with_reducible repeat (first | apply zY | apply zX | apply zZ)); exact HO362.out), (by (with_reducible repeat (first | refine zH ?_ _ | refine zI ?_ | refine zG ?_ _)); exact BK356.out), (by repeat (first | (with_reducible first | exact HB.out | apply zF | apply zD | apply zE | refine zJ ?_ GE356.out) | exact HB.out))⟩)
       ·skip
        rintro v361 w17 ⟨hS_, h0_, h1_, h2_⟩
        have n0_ : Aside0 (Kd.R (Kd.int .u8) 5 w17 w.heap.size (fun _ => True) v361 y360) := ⟨h0_⟩
        have n1_ : Aside0 (w17.heap[gb356]? = some (.cells #[.int .i64 a0_0, .int .i64 a0_1, .string a0_2] 38 (0, 0))) := ⟨h1_⟩
        have n2_ : Aside0 (Below w.heap.size w w17) := ⟨h2_⟩
        clear BK356
        clear HB
        clear h0_ h1_ h2_
        have HO362 := n0_
        have BK356 := n1_
        have HB := n2_
        clear n0_ n1_ n2_
        have hHeld : w17.cell? ⟨gb356, 0, none⟩ = some (.int .i64 a0_0) ∧ w17.cell? ⟨gb356, 1, none⟩ = some (.int .i64 a0_1) ∧ w17.cell? ⟨gb356, 2, none⟩ = some (.string a0_2) := hS_
        refine norm_ (a' := ?_) ?_ ?_
        rotate_left
        ·simp only [putAll, Act.put, zA, zB, zC]
         rfl
        refine one_ (i := 2) (N := some 9) #[true, true, true, false, true, true, true, true, false, false, true, true, true, true, true, false, true, true, false, false, false] rfl rfl (one_of HT_.out (by kernel_rfl)) (by decide) (fun K hK => ?_)
        refine goes_ Try.func27 (by kernel_rfl) rfl #[.int .i64 a0_0] (by rfl) rfl rfl (by (try simp only [zO, zP, zQ]); first | done | rfl | (simp only [zS, zR]; rfl)) ?_
        with_reducible refine (ref01_Of.calls a0_0 t358 _ A4.out).mono ?_
        rintro e w18 ⟨rfl, hb⟩
        refine ⟨_, rfl, ?_⟩
        have n0_ := Aside0.mk (Kd.R_below (by (with_reducible repeat (first | apply zY | apply zX | apply zZ)); exact HO362.out) hb)
        have n1_ := Aside0.mk (blk_below (g := gb356) (o := .cells #[.int .i64 a0_0, .int .i64 a0_1, .string a0_2] 38 (0, 0)) (by (with_reducible repeat (first | refine zH ?_ _ | refine zI ?_ | refine zG ?_ _)); exact BK356.out) hb)
        have n2_ := Aside0.mk (zU (by repeat (first | (with_reducible first | exact HB.out | apply zF | apply zD | apply zE | refine zJ ?_ GE356.out) | exact HB.out)) hb)
        clear HO362
        clear BK356
        clear HB
        have HO362 := n0_
        have BK356 := n1_
        have HB := n2_
        clear n0_ n1_ n2_
        (try clear hb)
        (try clear hb2)
        (try clear hk)
        (try clear hi)
        refine hK.out _ _ ⟨(zK BK356.out 0).trans rfl, (zK BK356.out 1).trans rfl, (zK BK356.out 2).trans rfl⟩ (fun hHeld => ?_)
        clear hK K
        refine norm_ (a' := ?_) ?_ ?_
        rotate_left
        ·show Act.put _ (some 9) _ = _
         simp only [Act.put, zA, zB, zC, i64_w, i32_w]
         rfl
        refine pure_ (i := 3) (N := some 10) (v := ?_) (a' := ?_) #[true, true, true, true, true, true, true, true, false, false, true, true, true, true, true, false, true, true, false, false, false] rfl rfl (any_of HT_.out (by kernel_rfl)) (fun _ _ _ h => h) (Or.inl ⟨by rfl, ?_⟩) ?_ ?_
        rotate_left
        ·intro w'
         go_simp
         with_reducible rfl
        rotate_left
        ·simp only [Act.put, zA, zB, zC, i64_w, i32_w]
         rfl
        exact norm_ (by first | (simp only [putAll, Act.put, zA, zB, zC]; done) | (simp only [putAll, Act.put, zA, zB, zC]; rfl)) (hJ2_13_14 (v361) _ ⟨hHeld, (by (with_reducible repeat (first | apply zY | apply zX | apply zZ)); exact HO362.out), (by (with_reducible repeat (first | refine zH ?_ _ | refine zI ?_ | refine zG ?_ _)); exact BK356.out), (by repeat (first | (with_reducible first | exact HB.out | apply zF | apply zD | apply zE | refine zJ ?_ GE356.out) | exact HB.out))⟩)
      ·skip
       rintro v361 w17 ⟨hS_, h0_, h1_, h2_⟩
       have n0_ : Aside0 (Kd.R (Kd.int .u8) 5 w17 w.heap.size (fun _ => True) v361 y360) := ⟨h0_⟩
       have n1_ : Aside0 (w17.heap[gb356]? = some (.cells #[.int .i64 a0_0, .int .i64 a0_1, .string a0_2] 38 (0, 0))) := ⟨h1_⟩
       have n2_ : Aside0 (Below w.heap.size w w17) := ⟨h2_⟩
       clear BK356
       clear HB
       clear h0_ h1_ h2_
       have HO362 := n0_
       have BK356 := n1_
       have HB := n2_
       clear n0_ n1_ n2_
       have hHeld : w17.cell? ⟨gb356, 0, none⟩ = some (.int .i64 a0_0) ∧ w17.cell? ⟨gb356, 1, none⟩ = some (.int .i64 a0_1) ∧ w17.cell? ⟨gb356, 2, none⟩ = some (.string a0_2) := hS_
       refine norm_ (a' := ?_) ?_ ?_
       rotate_left
       ·simp only [putAll, Act.put, zA, zB, zC]
        rfl
       refine two_ (i := 8) (j := 14) (Ni := some 15) (Nj := some 21) #[true, true, true, true, true, true, true, true, true, false, true, true, true, true, false, false, true, true, false, false, false] #[true, true, true, true, true, true, true, true, false, false, true, true, true, true, true, false, true, true, false, false, false] rfl rfl rfl rfl (two_of HT_.out (by kernel_rfl)) (by decide) (by decide) (fun K hK => ?_) (fun K hK => ?_)
       ·skip
        refine goes_ Try.func27 (by kernel_rfl) rfl #[.int .i64 (wrap64 (1 + (a0_2.size : Int)))] (by rfl) rfl rfl (by (try simp only [zO, zP, zQ]); first | done | rfl | (simp only [zS, zR]; rfl)) ?_
        with_reducible refine (ref01_Of.calls (wrap64 (1 + (a0_2.size : Int))) t359 _ A6.out).mono ?_
        rintro e w18 ⟨rfl, hb⟩
        refine ⟨_, rfl, ?_⟩
        have n0_ := Aside0.mk (Kd.R_below (by (with_reducible repeat (first | apply zY | apply zX | apply zZ)); exact HO362.out) hb)
        have n1_ := Aside0.mk (blk_below (g := gb356) (o := .cells #[.int .i64 a0_0, .int .i64 a0_1, .string a0_2] 38 (0, 0)) (by (with_reducible repeat (first | refine zH ?_ _ | refine zI ?_ | refine zG ?_ _)); exact BK356.out) hb)
        have n2_ := Aside0.mk (zU (by repeat (first | (with_reducible first | exact HB.out | apply zF | apply zD | apply zE | refine zJ ?_ GE356.out) | exact HB.out)) hb)
        clear HO362
        clear BK356
        clear HB
        have HO362 := n0_
        have BK356 := n1_
        have HB := n2_
        clear n0_ n1_ n2_
        (try clear hb)
        (try clear hb2)
        (try clear hk)
        (try clear hi)
        refine hK.out _ _ ⟨(zK BK356.out 0).trans rfl, (zK BK356.out 1).trans rfl, (zK BK356.out 2).trans rfl⟩ (fun hHeld => ?_)
        clear hK K
        refine norm_ (a' := ?_) ?_ ?_
        rotate_left
        ·show Act.put _ (some 15) _ = _
         simp only [Act.put, zA, zB, zC, i64_w, i32_w]
         rfl
        refine pure_ (i := 9) (N := some 16) (v := ?_) (a' := ?_) #[true, true, true, true, true, true, true, true, true, true, true, true, true, true, false, false, true, true, false, false, false] rfl rfl (any_of HT_.out (by kernel_rfl)) (fun _ _ _ h => h) (Or.inl ⟨by rfl, ?_⟩) ?_ ?_
        rotate_left
        ·intro w'
         go_simp
         with_reducible rfl
        rotate_left
        ·simp only [Act.put, zA, zB, zC, i64_w, i32_w]
         rfl
        exact norm_ (by first | (simp only [putAll, Act.put, zA, zB, zC]; done) | (simp only [putAll, Act.put, zA, zB, zC]; rfl)) (hJ2_8_13 (v361) _ ⟨hHeld, (by (with_reducible repeat (first | apply zY | apply zX | apply zZ)); exact HO362.out), (by (with_reducible repeat (first | refine zH ?_ _ | refine zI ?_ | refine zG ?_ _)); exact BK356.out), (by repeat (first | (with_reducible first | exact HB.out | apply zF | apply zD | apply zE | refine zJ ?_ GE356.out) | exact HB.out))⟩)
       ·skip
        have hcv18 := own_string (P := Try.prog) Try.underlying57 Try.underlying5 Try.underlying9 (Kd.own_of_R HO362.out)
        refine value_ (w1 := ?_) (v := ?_) (by rfl) rfl ?_ ?_
        rotate_left 2
        ·go_simp
         constructor
         ·rfl
         ·rfl
        clear hcv18
        refine hK.out _ _ ⟨(zK BK356.out 0).trans rfl, (zK BK356.out 1).trans rfl, (zK BK356.out 2).trans rfl⟩ (fun hHeld => ?_)
        clear hK K
        refine norm_ (a' := ?_) ?_ ?_
        rotate_left
        ·show Act.put _ (some 21) _ = _
         simp only [Act.put, zA, zB, zC, i64_w, i32_w]
         rfl
        exact norm_ (by first | (simp only [putAll, Act.put, zA, zB, zC]; done) | (simp only [putAll, Act.put, zA, zB, zC]; rfl)) (hJ2_13_14 (v361) _ ⟨hHeld, (by (with_reducible repeat (first | apply zY | apply zX | apply zZ)); exact HO362.out), (by (with_reducible repeat (first | refine zH ?_ _ | refine zI ?_ | refine zG ?_ _)); exact BK356.out), (by repeat (first | (with_reducible first | exact HB.out | apply zF | apply zD | apply zE | refine zJ ?_ GE356.out) | exact HB.out))⟩)
     ·skip
      rintro _ w16 ⟨hS_, h0_, h1_⟩
      have n0_ : Aside0 (w16.heap[gb356]? = some (.cells #[.int .i64 a0_0, .int .i64 a0_1, .string a0_2] 38 (0, 0))) := ⟨h0_⟩
      have n1_ : Aside0 (Below w.heap.size w w16) := ⟨h1_⟩
      clear BK356
      clear HB
      clear h0_ h1_
      have BK356 := n0_
      have HB := n1_
      clear n0_ n1_
      have hHeld : w16.cell? ⟨gb356, 0, none⟩ = some (.int .i64 a0_0) ∧ w16.cell? ⟨gb356, 1, none⟩ = some (.int .i64 a0_1) ∧ w16.cell? ⟨gb356, 2, none⟩ = some (.string a0_2) := hS_
      refine norm_ (a' := ?_) ?_ ?_
      rotate_left
      ·simp only [putAll, Act.put, zA, zB, zC]
       rfl
      refine one_ (i := 13) (N := some 20) #[true, true, true, true, true, true, true, true, true, true, true, true, true, true, false, false, true, true, false, false, false] rfl rfl (one_of HT_.out (by kernel_rfl)) (by decide) (fun K hK => ?_)
      refine Kd.R_lit_step (Kd.int .u8) _ 5 ?hg (N := 20) ?hd (xs := ([(a0_1) % 256] : List Int)) (inner := [.int .u8 ((a0_1) % 256)]) (ok := fun _ => True) (okp := fun _ => True) ?hr ?hp (fun _ hk => hk) trivial (Below.refl _ _) (Nat.le_refl _) (by simp) ?_; (case hd => rfl); (case hg => rfl); (case hr => first | (go_simp; done) | (go_simp; rfl)); (case hp => exact (Reps.one (show Kd.M (Kd.int .u8) _ _ _ ((a0_1) % 256) [.int .u8 ((a0_1) % 256)] from rfl) (Reps.none _ _)))
      intro v361 w17 ho18 hb hg_ hnew_
      clear hg_ hnew_
      (first | rw [← Ny360.out] at ho18 | (simp only [Int.reduceToNat] at ho18; rw [← Ny360.out] at ho18))
      have n0_ := Aside0.mk (Kd.R_lower ho18 (zT (by repeat (first | (with_reducible first | exact HB.out | apply zF | apply zD | apply zE | refine zJ ?_ GE356.out) | exact HB.out))))
      have n1_ := Aside0.mk (blk_below (g := gb356) (o := .cells #[.int .i64 a0_0, .int .i64 a0_1, .string a0_2] 38 (0, 0)) (by (with_reducible repeat (first | refine zH ?_ _ | refine zI ?_ | refine zG ?_ _)); exact BK356.out) hb)
      have n2_ := Aside0.mk (zU (by repeat (first | (with_reducible first | exact HB.out | apply zF | apply zD | apply zE | refine zJ ?_ GE356.out) | exact HB.out)) hb)
      clear BK356
      clear HB
      have HO362 := n0_
      have BK356 := n1_
      have HB := n2_
      clear n0_ n1_ n2_
      clear hb ho18
      refine hK.out _ _ ⟨(zK BK356.out 0).trans rfl, (zK BK356.out 1).trans rfl, (zK BK356.out 2).trans rfl⟩ (fun hHeld => ?_)
      clear hK K
      refine norm_ (a' := ?_) ?_ ?_
      rotate_left
      ·show Act.put _ (some 20) _ = _
       simp only [Act.put, zA, zB, zC, i64_w, i32_w]
       rfl
      exact norm_ (by first | (simp only [putAll, Act.put, zA, zB, zC]; done) | (simp only [putAll, Act.put, zA, zB, zC]; rfl)) (hJ2_8_13 (v361) _ ⟨hHeld, (by (with_reducible repeat (first | apply zY | apply zX | apply zZ)); exact HO362.out), (by (with_reducible repeat (first | refine zH ?_ _ | refine zI ?_ | refine zG ?_ _)); exact BK356.out), (by repeat (first | (with_reducible first | exact HB.out | apply zF | apply zD | apply zE | refine zJ ?_ GE356.out) | exact HB.out))⟩)
    ·skip
     rintro v361 w18 ⟨hS_, h0_, h1_, h2_⟩
     have n0_ : Aside0 (Kd.R (Kd.int .u8) 5 w18 w.heap.size (fun _ => True) v361 y360) := ⟨h0_⟩
     have n1_ : Aside0 (w18.heap[gb356]? = some (.cells #[.int .i64 a0_0, .int .i64 a0_1, .string a0_2] 38 (0, 0))) := ⟨h1_⟩
     have n2_ : Aside0 (Below w.heap.size w w18) := ⟨h2_⟩
     clear BK356
     clear HB
     clear h0_ h1_ h2_
     have HO362 := n0_
     have BK356 := n1_
     have HB := n2_
     clear n0_ n1_ n2_
     have hHeld : w18.cell? ⟨gb356, 0, none⟩ = some (.int .i64 a0_0) ∧ w18.cell? ⟨gb356, 1, none⟩ = some (.int .i64 a0_1) ∧ w18.cell? ⟨gb356, 2, none⟩ = some (.string a0_2) := hS_
     refine norm_ (a' := ?_) ?_ ?_
     rotate_left
     ·simp only [putAll, Act.put, zA, zB, zC]
      rfl
     refine one_ (i := 8) (N := some 15) #[true, true, true, true, true, true, true, true, true, false, true, true, true, true, true, false, true, true, false, false, false] rfl rfl (one_of HT_.out (by kernel_rfl)) (by decide) (fun K hK => ?_)
     refine goes_ Try.func27 (by kernel_rfl) rfl #[.int .i64 (wrap64 (1 + (a0_2.size : Int)))] (by rfl) rfl rfl (by (try simp only [zO, zP, zQ]); first | done | rfl | (simp only [zS, zR]; rfl)) ?_
     with_reducible refine (ref01_Of.calls (wrap64 (1 + (a0_2.size : Int))) t359 _ A6.out).mono ?_
     rintro e w19 ⟨rfl, hb⟩
     refine ⟨_, rfl, ?_⟩
     have n0_ := Aside0.mk (Kd.R_below (by (with_reducible repeat (first | apply zY | apply zX | apply zZ)); exact HO362.out) hb)
     have n1_ := Aside0.mk (blk_below (g := gb356) (o := .cells #[.int .i64 a0_0, .int .i64 a0_1, .string a0_2] 38 (0, 0)) (by (with_reducible repeat (first | refine zH ?_ _ | refine zI ?_ | refine zG ?_ _)); exact BK356.out) hb)
     have n2_ := Aside0.mk (zU (by repeat (first | (with_reducible first | exact HB.out | apply zF | apply zD | apply zE | refine zJ ?_ GE356.out) | exact HB.out)) hb)
     clear HO362
     clear BK356
     clear HB
     have HO362 := n0_
     have BK356 := n1_
     have HB := n2_
     clear n0_ n1_ n2_
     (try clear hb)
     (try clear hb2)
     (try clear hk)
     (try clear hi)
     refine hK.out _ _ ⟨(zK BK356.out 0).trans rfl, (zK BK356.out 1).trans rfl, (zK BK356.out 2).trans rfl⟩ (fun hHeld => ?_)
     clear hK K
     refine norm_ (a' := ?_) ?_ ?_
     rotate_left
     ·show Act.put _ (some 15) _ = _
      simp only [Act.put, zA, zB, zC, i64_w, i32_w]
      rfl
     refine pure_ (i := 9) (N := some 16) (v := ?_) (a' := ?_) #[true, true, true, true, true, true, true, true, true, true, true, true, true, true, true, false, true, true, false, false, false] rfl rfl (any_of HT_.out (by kernel_rfl)) (fun _ _ _ h => h) (Or.inl ⟨by rfl, ?_⟩) ?_ ?_
     rotate_left
     ·intro w'
      go_simp
      with_reducible rfl
     rotate_left
     ·simp only [Act.put, zA, zB, zC, i64_w, i32_w]
      rfl
     exact norm_ (by first | (simp only [putAll, Act.put, zA, zB, zC]; done) | (simp only [putAll, Act.put, zA, zB, zC]; rfl)) (hJ2_8_13_14 (v361) _ ⟨hHeld, (by (with_reducible repeat (first | apply zY | apply zX | apply zZ)); exact HO362.out), (by (with_reducible repeat (first | refine zH ?_ _ | refine zI ?_ | refine zG ?_ _)); exact BK356.out), (by repeat (first | (with_reducible first | exact HB.out | apply zF | apply zD | apply zE | refine zJ ?_ GE356.out) | exact HB.out))⟩)
   ·skip
    rintro v361 w18 ⟨hS_, h0_, h1_, h2_⟩
    have n0_ : Aside0 (Kd.R (Kd.int .u8) 5 w18 w.heap.size (fun _ => True) v361 y360) := ⟨h0_⟩
    have n1_ : Aside0 (w18.heap[gb356]? = some (.cells #[.int .i64 a0_0, .int .i64 a0_1, .string a0_2] 38 (0, 0))) := ⟨h1_⟩
    have n2_ : Aside0 (Below w.heap.size w w18) := ⟨h2_⟩
    clear BK356
    clear HB
    clear h0_ h1_ h2_
    have HO362 := n0_
    have BK356 := n1_
    have HB := n2_
    clear n0_ n1_ n2_
    have hHeld : w18.cell? ⟨gb356, 0, none⟩ = some (.int .i64 a0_0) ∧ w18.cell? ⟨gb356, 1, none⟩ = some (.int .i64 a0_1) ∧ w18.cell? ⟨gb356, 2, none⟩ = some (.string a0_2) := hS_
    refine norm_ (a' := ?_) ?_ ?_
    rotate_left
    ·simp only [putAll, Act.put, zA, zB, zC]
     rfl
    refine one_ (i := 14) (N := some 21) #[true, true, true, true, true, true, true, true, true, true, true, true, true, true, true, false, true, true, false, false, false] rfl rfl (one_of HT_.out (by kernel_rfl)) (by decide) (fun K hK => ?_)
    have hcv19 := own_string (P := Try.prog) Try.underlying57 Try.underlying5 Try.underlying9 (Kd.own_of_R HO362.out)
    refine value_ (w1 := ?_) (v := ?_) (by rfl) rfl ?_ ?_
    rotate_left 2
    ·go_simp
     constructor
     ·rfl
     ·rfl
    clear hcv19
    refine hK.out _ _ ⟨(zK BK356.out 0).trans rfl, (zK BK356.out 1).trans rfl, (zK BK356.out 2).trans rfl⟩ (fun hHeld => ?_)
    clear hK K
    refine norm_ (a' := ?_) ?_ ?_
    rotate_left
    ·show Act.put _ (some 21) _ = _
     simp only [Act.put, zA, zB, zC, i64_w, i32_w]
     rfl
    exact norm_ (by first | (simp only [putAll, Act.put, zA, zB, zC]; done) | (simp only [putAll, Act.put, zA, zB, zC]; rfl)) (hJ2_8_13_14 (v361) _ ⟨hHeld, (by (with_reducible repeat (first | apply zY | apply zX | apply zZ)); exact HO362.out), (by (with_reducible repeat (first | refine zH ?_ _ | refine zI ?_ | refine zG ?_ _)); exact BK356.out), (by repeat (first | (with_reducible first | exact HB.out | apply zF | apply zD | apply zE | refine zJ ?_ GE356.out) | exact HB.out))⟩)
  rintro v361 w19 ⟨hS_, h0_, h1_, h2_⟩
  have n0_ : Aside0 (Kd.R (Kd.int .u8) 5 w19 w.heap.size (fun _ => True) v361 y360) := ⟨h0_⟩
  have n1_ : Aside0 (w19.heap[gb356]? = some (.cells #[.int .i64 a0_0, .int .i64 a0_1, .string a0_2] 38 (0, 0))) := ⟨h1_⟩
  have n2_ : Aside0 (Below w.heap.size w w19) := ⟨h2_⟩
  clear BK356
  clear HB
  clear h0_ h1_ h2_
  have HO362 := n0_
  have BK356 := n1_
  have HB := n2_
  clear n0_ n1_ n2_
  have hHeld : w19.cell? ⟨gb356, 0, none⟩ = some (.int .i64 a0_0) ∧ w19.cell? ⟨gb356, 1, none⟩ = some (.int .i64 a0_1) ∧ w19.cell? ⟨gb356, 2, none⟩ = some (.string a0_2) := hS_
  refine norm_ (a' := ?_) ?_ ?_
  rotate_left
  ·simp only [putAll, Act.put, zA, zB, zC]
   rfl
  refine pure_ (i := 15) (N := some 22) (v := ?_) (a' := ?_) #[true, true, true, true, true, true, true, true, true, true, true, true, true, true, true, true, true, true, false, false, false] rfl rfl (any_of HT_.out (by kernel_rfl)) (fun _ _ _ h => h) (Or.inl ⟨by rfl, ?_⟩) ?_ ?_
  rotate_left
  ·intro w'
   go_simp
   with_reducible rfl
  rotate_left
  ·simp only [Act.put, zA, zB, zC, i64_w, i32_w]
   rfl
  refine pure_ (i := 18) (N := some 25) (v := ?_) (a' := ?_) #[true, true, true, true, true, true, true, true, true, true, true, true, true, true, true, true, true, true, true, false, false] rfl rfl (any_of HT_.out (by kernel_rfl)) (fun _ _ _ h => h) (Or.inl ⟨by rfl, ?_⟩) ?_ ?_
  rotate_left
  ·intro w'
   go_simp
   with_reducible rfl
  rotate_left
  ·simp only [Act.put, zA, zB, zC, i64_w, i32_w]
   rfl
  refine pure_ (i := 19) (N := some 2) (v := ?_) (a' := ?_) #[true, true, true, true, true, true, true, true, true, true, true, true, true, true, true, true, true, true, true, true, false] rfl rfl (any_of HT_.out (by kernel_rfl)) (fun _ _ _ h => h) (Or.inl ⟨by rfl, ?_⟩) ?_ ?_
  rotate_left
  ·intro w'
   go_simp
   with_reducible rfl
  rotate_left
  ·simp only [Act.put, zA, zB, zC, i64_w, i32_w]
   rfl
  refine pure_ (i := 20) (N := some 3) (v := ?_) (a' := ?_) #[true, true, true, true, true, true, true, true, true, true, true, true, true, true, true, true, true, true, true, true, true] rfl rfl (any_of HT_.out (by kernel_rfl)) (fun _ _ _ h => h) (Or.inl ⟨by rfl, ?_⟩) ?_ ?_
  rotate_left
  ·intro w'
   go_simp
   with_reducible rfl
  rotate_left
  ·simp only [Act.put, zA, zB, zC, i64_w, i32_w]
   rfl
  refine done_ (done_of HT_.out (by kernel_rfl)) ?_
  try go_wp2
  go_ret2
  exact ⟨by first | rfl | (simp [errW_none, errW_some] <;> rfl) | (simp [*, errW_none, errW_some] <;> rfl), by repeat (first | (with_reducible first | exact HB.out | apply zF | apply zD | apply zE | refine zJ ?_ GE356.out) | exact HB.out)⟩
 ·replace c3 := Bool.eq_false_iff.mpr c3
  subst c3
  have H1 : (some ((⟨#[]⟩ : ByteArray), false)) = some (r1, r2) := by rw [if_neg (show ¬ (false = true) by decide)] at H; exact H
  clear H
  have H := H1
  clear H1
  simp only [Option.some.injEq, Prod.mk.injEq] at H
  obtain ⟨rfl, rfl⟩ := H
  go_enter Try.func12, Try.ntmps12
  go_wp2_with (first | ((with_reducible refine gate_dst (N := 1) rfl ?_); refine box_event ?hg (N := 1) ?hd (cs := #[.int .i64 a0_0, .int .i64 a0_1, .string a0_2]) (t := 38) ?hr ?_; (case hd => rfl); (case hg => rfl); (case hr => first | (go_simp; done) | (go_simp; rfl)); intro gb356 hg w20 hbox hb; have n0_ := Aside0.mk (zU (by repeat (first | (with_reducible first | exact HB.out | apply zF | apply zD | apply zE) | exact HB.out)) hb); have n1_ := Aside0.mk (hbox); have n2_ := Aside0.mk ((by rw [hg]; exact (zT (by repeat (first | (with_reducible first | exact HB.out | apply zF | apply zD | apply zE) | exact HB.out))) : w.heap.size ≤ gb356)); have n3_ := Aside0.mk ((by rw [hg]; exact (zT (by repeat (first | (with_reducible first | exact HB.out | apply zF | apply zD | apply zE) | exact HB.out))) : w.heap.size ≤ gb356)); clear HB; have HB := n0_; have BK356 := n1_; have GW356 := n2_; have GE356 := n3_; clear n0_ n1_ n2_ n3_; clear hb hbox hg; have hcz21_0 : w20.cell? ⟨gb356, 0, none⟩ = some (.int .i64 a0_0) := (zK BK356.out 0).trans rfl; have hcz21_1 : w20.cell? ⟨gb356, 1, none⟩ = some (.int .i64 a0_1) := (zK BK356.out 1).trans rfl; have hcz21_2 : w20.cell? ⟨gb356, 2, none⟩ = some (.string a0_2) := (zK BK356.out 2).trans rfl; have hfz21_0 := zL BK356.out 0; have hfz21_1 := zL BK356.out 1; have hfz21_2 := zL BK356.out 2) | ((with_reducible refine gate_callee (f := 26) rfl ?_); refine goesL_ (some 5) rfl rfl Try.func26 (by kernel_rfl) rfl #[.agg #[.int .i64 a0_0, .int .i64 a0_1, .string a0_2]] rfl (by (try simp only [zO, zP, zQ]); first | done | rfl | (simp only [zS, zR]; rfl)) ?_; (with_reducible refine (ref08_Right.calls a0_0 a0_1 a0_2 false _ A2.out).mono ?_); rintro e w22 ⟨rfl, hb⟩; refine ⟨_, rfl, ?_⟩; have n0_ := Aside0.mk (blk_below (g := gb356) (o := .cells #[.int .i64 a0_0, .int .i64 a0_1, .string a0_2] 38 (0, 0)) (by (with_reducible repeat (first | refine zH ?_ _ | refine zI ?_ | refine zG ?_ _)); exact BK356.out) hb); have n1_ := Aside0.mk (zU (by repeat (first | (with_reducible first | exact HB.out | apply zF | apply zD | apply zE | refine zJ ?_ GE356.out) | exact HB.out)) hb); clear BK356; clear HB; have BK356 := n0_; have HB := n1_; clear n0_ n1_; (try clear hb); (try clear hb2); (try clear hk); (try clear hi)))
  go_ret2
  exact ⟨by first | rfl | (simp [errW_none, errW_some] <;> rfl) | (simp [*, errW_none, errW_some] <;> rfl), by repeat (first | (with_reducible first | exact HB.out | apply zF | apply zD | apply zE | refine zJ ?_ GE356.out) | exact HB.out)⟩

end Go.Proofs.Ytfapfpkijeaapaa.P

-- Written by a program of this session (wip/mkprint.py). Not trusted: Lean checks it.
import Derived.Test.YtimljcnmochmnaaP0
import Derived.Test.YtimljcnmochmnaaP1
import Derived.Test.YtimljcnmochmnaaP2
import Derived.Test.YtimljcnmochmnaaP3
import Derived.Test.YtimljcnmochmnaaP4
import Derived.Test.YtimljcnmochmnaaP5
import Derived.Test.YtimljcnmochmnaaP7
import Derived.Test.YtimljcnmochmnaaP8
namespace Go.Proofs.Ytimljcnmochmnaa.P
open Go.RowKit Go.Proofs.YtimljcnmochmnaaW.PrintWords Go.Proofs.YtimljcnmochmnaaW.PrintLast Go.Proofs.YtimljcnmochmnaaW.PrintMore
attribute [local go_sem] max2_int min2_int max_two min_two max_three min_three max_four min_four   -- for this text's walks alone
set_option linter.unusedVariables false
set_option linter.unusedSimpArgs false

attribute [local go_sem high] eqA23
/-! ### law23_AuditTells: function 3 -/
def law23_AuditTells.f (k : Nat) (a0_0 : Int) (a0_1 : Int) (a0_2 : Int) (a0_3 : Int) (a0_4 : Int) (a0_5 : Int) (a0_6 : Int) (a0_7 : Int) (a0_8 : Int) (a1 : ByteArray) : Option (Bool) := if (a1.size : Int) > 1000 then ((law23_awake.f k).bind fun t226 => (some t226)) else ((audit_Put.f k a0_0 a0_1 a0_2 a0_3 a0_4 a0_5 a0_6 a0_7 a0_8).bind fun bt227 => ((ref23_Put.f a0_0 a0_1 a0_2 a0_3 a0_4 a0_5 a0_6 a0_7 a0_8).bind fun bt229 => ((audit_Get.f k a1).bind fun bt231 => ((ref23_Get.f a1).bind fun bt242 => ((audit_All.f k a1).bind fun bt253 => ((ref23_All.f k a1).bind fun bt257 => ((law23_awake.f k).bind fun t261 => (if t261 = true then ((audit_Right.f k a0_0 a0_1 a0_2 a0_3 a0_4 a0_5 a0_6 a0_7 a0_8).bind fun t262 => ((ref23_Right.f a0_0 a0_1 a0_2 a0_3 a0_4 a0_5 a0_6 a0_7 a0_8).bind fun t263 => (if (t262 == t263) = true then (if bt227.1.toList = bt229.1.toList then (if (bt227.2 == bt229.2) = true then (if (bt231.1 == bt242.1 && (bt231.2.1 == bt242.2.1 && (bt231.2.2.1 == bt242.2.2.1 && (bt231.2.2.2.1 == bt242.2.2.2.1 && (bt231.2.2.2.2.1 == bt242.2.2.2.2.1 && (bt231.2.2.2.2.2.1 == bt242.2.2.2.2.2.1 && (bt231.2.2.2.2.2.2.1 == bt242.2.2.2.2.2.2.1 && (bt231.2.2.2.2.2.2.2.1 == bt242.2.2.2.2.2.2.2.1 && (bt231.2.2.2.2.2.2.2.2.1 == bt242.2.2.2.2.2.2.2.2.1))))))))) = true then (if (bt231.2.2.2.2.2.2.2.2.2 == bt242.2.2.2.2.2.2.2.2.2) = true then ((ref23_Same.f k bt253.1 bt257.1).bind fun t264 => (if t264 = true then (some (bt253.2 == bt257.2)) else (none))) else (none)) else (none)) else (none)) else (none)) else (none)))) else (none)))))))))
theorem law23_AuditTells.mono : ∀ a0 a1 a2 a3 a4 a5 a6 a7 a8 a9 k, LeO (law23_AuditTells.f k a0 a1 a2 a3 a4 a5 a6 a7 a8 a9) (law23_AuditTells.f (k + 1) a0 a1 a2 a3 a4 a5 a6 a7 a8 a9) := by
 intro a0 a1 a2 a3 a4 a5 a6 a7 a8 a9 k
 unfold law23_AuditTells.f
 repeat' first
  | (with_reducible exact audit_All.mono _ _)
  | (with_reducible exact audit_Get.mono _ _)
  | (with_reducible exact audit_Put.mono _ _ _ _ _ _ _ _ _ _)
  | (with_reducible exact audit_Right.mono _ _ _ _ _ _ _ _ _ _)
  | (with_reducible exact law23_awake.mono _)
  | (with_reducible exact ref23_All.mono _ _)
  | (with_reducible exact ref23_Same.mono _ _ _)
  | (with_reducible exact LeO.refl _)
  | (with_reducible exact LeO.none _)
  | (with_reducible refine LeO.ite ?_ ?_)
  | (with_reducible refine LeO.bind ?_ (fun _ => ?_))
  | exact audit_All.mono _ _
  | exact audit_Get.mono _ _
  | exact audit_Put.mono _ _ _ _ _ _ _ _ _ _
  | exact audit_Right.mono _ _ _ _ _ _ _ _ _ _
  | exact law23_awake.mono _
  | exact ref23_All.mono _ _
  | exact ref23_Same.mono _ _ _
  | exact LeO.none _
  | refine LeO.ite ?_ ?_
  | refine LeO.bind ?_ (fun _ => ?_)
def law23_AuditTells.T9 : Bool × List (List Nat × List Nat) := (true, [([], []), ([0, 0], [0]), ([1], [1]), ([2, 1, 1], [1, 2]), ([1], [1]), ([4, 3, 1], [1, 4]), ([3, 5, 1], [1, 3, 5]), ([1, 6], [1, 6]), ([7, 5], [7]), ([8], [8]), ([8], [8]), ([9, 10, 8], [8, 9, 10]), ([8, 11], [8, 11]), ([12, 8], [12]), ([13], [13]), ([13], [13]), ([14, 15, 13], [13, 14, 15]), ([13, 16], [13, 16]), ([17, 13], [17]), ([18], [18]), ([18], [18]), ([19, 20, 18], [18, 19, 20]), ([18, 21], [18, 21]), ([22, 18], [22]), ([23], [23]), ([23], [23]), ([24, 25, 23], [23, 24, 25]), ([23, 26], [23, 26]), ([27, 23], [27]), ([28], [28]), ([28], [28]), ([29, 30, 28, 28], [28, 29, 30]), ([28, 31], [28, 31]), ([32, 31], [32]), ([33], [33]), ([33], [33]), ([34, 35, 33], [33, 34, 35]), ([33, 36], [33, 36]), ([37, 33, 0, 1, 2, 3, 4, 5, 6, 7, 8, 9, 10, 11, 12, 13, 14, 15, 16, 17, 18, 19, 20, 21, 22, 23, 24, 25, 26, 27, 28, 29, 30, 31, 32, 33, 34, 35, 36, 37], [37])])
def law23_AuditTells.B9 : List Nat := [0, 1, 3, 7, 3, 31, 63, 127, 255, 511, 511, 2047, 4095, 8191, 16383, 16383, 65535, 131071, 262143, 524287, 524287, 2097151, 4194303, 8388607, 16777215, 16777215, 67108863, 134217727, 268435455, 536870911, 536870911, 2147483647, 4294967295, 8589934591, 17179869183, 17179869183, 68719476735, 137438953471, 274877906943]
theorem law23_AuditTells.tab9 : rtab .any (opsOf Try.f3 9) = law23_AuditTells.T9 := by kernel_rfl
theorem law23_AuditTells.bits9 : waitsOk law23_AuditTells.T9.2 law23_AuditTells.B9 = true := by kernel_rfl
set_option maxHeartbeats 8000000 in
set_option maxRecDepth 100000 in
theorem law23_AuditTells.calls (k : Nat) (a0_0 : Int) (a0_1 : Int) (a0_2 : Int) (a0_3 : Int) (a0_4 : Int) (a0_5 : Int) (a0_6 : Int) (a0_7 : Int) (a0_8 : Int) (a1 : ByteArray) (r : Bool) (w : World) (h : law23_AuditTells.f k a0_0 a0_1 a0_2 a0_3 a0_4 a0_5 a0_6 a0_7 a0_8 a1 = some r) :
 Calls Try.prog 3 #[.agg #[.int .i64 a0_0, .int .i64 a0_1, .int .i64 a0_2, .int .i64 a0_3, .int .i64 a0_4, .int .i64 a0_5, .int .i64 a0_6, .int .i64 a0_7, .int .i64 a0_8], .string a1] w fun e w' => e = .returned (.bool r) ∧ Below w.heap.size w w' := by
 have hu23 := Try.underlying23
 have HB := Aside0.mk (Below.refl w.heap.size w)
 have H : (if (a1.size : Int) > 1000 then ((law23_awake.f k).bind fun t226 => (some t226)) else ((audit_Put.f k a0_0 a0_1 a0_2 a0_3 a0_4 a0_5 a0_6 a0_7 a0_8).bind fun bt227 => ((ref23_Put.f a0_0 a0_1 a0_2 a0_3 a0_4 a0_5 a0_6 a0_7 a0_8).bind fun bt229 => ((audit_Get.f k a1).bind fun bt231 => ((ref23_Get.f a1).bind fun bt242 => ((audit_All.f k a1).bind fun bt253 => ((ref23_All.f k a1).bind fun bt257 => ((law23_awake.f k).bind fun t261 => (if t261 = true then ((audit_Right.f k a0_0 a0_1 a0_2 a0_3 a0_4 a0_5 a0_6 a0_7 a0_8).bind fun t262 => ((ref23_Right.f a0_0 a0_1 a0_2 a0_3 a0_4 a0_5 a0_6 a0_7 a0_8).bind fun t263 => (if (t262 == t263) = true then (if bt227.1.toList = bt229.1.toList then (if (bt227.2 == bt229.2) = true then (if (bt231.1 == bt242.1 && (bt231.2.1 == bt242.2.1 && (bt231.2.2.1 == bt242.2.2.1 && (bt231.2.2.2.1 == bt242.2.2.2.1 && (bt231.2.2.2.2.1 == bt242.2.2.2.2.1 && (bt231.2.2.2.2.2.1 == bt242.2.2.2.2.2.1 && (bt231.2.2.2.2.2.2.1 == bt242.2.2.2.2.2.2.1 && (bt231.2.2.2.2.2.2.2.1 == bt242.2.2.2.2.2.2.2.1 && (bt231.2.2.2.2.2.2.2.2.1 == bt242.2.2.2.2.2.2.2.2.1))))))))) = true then (if (bt231.2.2.2.2.2.2.2.2.2 == bt242.2.2.2.2.2.2.2.2.2) = true then ((ref23_Same.f k bt253.1 bt257.1).bind fun t264 => (if t264 = true then (some (bt253.2 == bt257.2)) else (none))) else (none)) else (none)) else (none)) else (none)) else (none)))) else (none)))))))))) = some r := h
 clear h
 by_cases c3 : (a1.size : Int) > 1000
 ·rw [if_pos c3] at H
  have c3b0 : decide (1000 < (a1.size : Int)) = true := decide_eq_true c3
  have c3b1 : decide (1000 < a1.size) = true := decide_eq_true (by omega)
  clear c3
  replace H := Option.bind_eq_some_iff.mp H
  obtain ⟨t226, A40, H⟩ := H
  replace H : (some t226) = some r := H
  have A4 := Aside0.mk A40
  clear A40
  obtain rfl := Option.some.inj H
  go_enter Try.func3, Try.ntmps3
  go_wp2_with (first | ((with_reducible refine gate_dst (N := 2) rfl ?_); refine box_event ?hg (N := 2) ?hd (cs := #[.int .i64 a0_0, .int .i64 a0_1, .int .i64 a0_2, .int .i64 a0_3, .int .i64 a0_4, .int .i64 a0_5, .int .i64 a0_6, .int .i64 a0_7, .int .i64 a0_8]) (t := 23) ?hr ?_; (case hd => rfl); (case hg => rfl); (case hr => first | (go_simp; done) | (go_simp; rfl)); intro gb225 hg w5 hbox hb; have n0_ := Aside0.mk (below_step (by repeat (first | (with_reducible first | exact HB.out | apply below_alloc | apply pw_below_drewN | apply below_drew1) | exact HB.out)) hb); have n1_ := Aside0.mk (hbox); have n2_ := Aside0.mk ((by rw [hg]; exact (below_size (by repeat (first | (with_reducible first | exact HB.out | apply below_alloc | apply pw_below_drewN | apply below_drew1) | exact HB.out))) : w.heap.size ≤ gb225)); have n3_ := Aside0.mk ((by rw [hg]; exact (below_size (by repeat (first | (with_reducible first | exact HB.out | apply below_alloc | apply pw_below_drewN | apply below_drew1) | exact HB.out))) : w.heap.size ≤ gb225)); clear HB; have HB := n0_; have BK225 := n1_; have GW225 := n2_; have GE225 := n3_; clear n0_ n1_ n2_ n3_; clear hb hbox hg) | ((with_reducible refine gate_callee (f := 5) rfl ?_); refine goesL_ (some 20) rfl rfl Try.func5 (by kernel_rfl) rfl #[] rfl (by (try simp only [List.map_toArray, List.map_cons, List.map_nil]); first | done | rfl | (simp only [List.length_drop, List.length_take]; rfl)) ?_; (with_reducible refine (law23_awake.calls k  t226 _ A4.out).mono ?_); rintro e w6 ⟨rfl, hb⟩; refine ⟨_, rfl, ?_⟩; have n0_ := Aside0.mk (blk_below (g := gb225) (o := .cells #[.int .i64 a0_0, .int .i64 a0_1, .int .i64 a0_2, .int .i64 a0_3, .int .i64 a0_4, .int .i64 a0_5, .int .i64 a0_6, .int .i64 a0_7, .int .i64 a0_8] 23 (0, 0)) (by (with_reducible repeat (first | refine blk_drewN ?_ _ | refine blk_drew ?_ | refine blk_alloc ?_ _)); exact BK225.out) hb); have n1_ := Aside0.mk (below_step (by repeat (first | (with_reducible first | exact HB.out | apply below_alloc | apply pw_below_drewN | apply below_drew1 | refine below_set ?_ GE225.out) | exact HB.out)) hb); clear BK225; clear HB; have BK225 := n0_; have HB := n1_; clear n0_ n1_; (try clear hb); (try clear hb2); (try clear hk); (try clear hi)))
  go_ret
  exact ⟨by first | rfl | (simp [errW_none, errW_some] <;> rfl) | (simp [*, errW_none, errW_some] <;> rfl), by repeat (first | (with_reducible first | exact HB.out | apply below_alloc | apply pw_below_drewN | apply below_drew1 | refine below_set ?_ GE225.out) | exact HB.out)⟩
 ·rw [if_neg c3] at H
  have c3b0 : decide (1000 < (a1.size : Int)) = false := decide_eq_false c3
  have c3b1 : decide (1000 < a1.size) = false := decide_eq_false (by omega)
  clear c3
  replace H := Option.bind_eq_some_iff.mp H
  obtain ⟨⟨t227, t228⟩, A70, H⟩ := H
  replace H : ((ref23_Put.f a0_0 a0_1 a0_2 a0_3 a0_4 a0_5 a0_6 a0_7 a0_8).bind fun bt229 => ((audit_Get.f k a1).bind fun bt231 => ((ref23_Get.f a1).bind fun bt242 => ((audit_All.f k a1).bind fun bt253 => ((ref23_All.f k a1).bind fun bt257 => ((law23_awake.f k).bind fun t261 => (if t261 = true then ((audit_Right.f k a0_0 a0_1 a0_2 a0_3 a0_4 a0_5 a0_6 a0_7 a0_8).bind fun t262 => ((ref23_Right.f a0_0 a0_1 a0_2 a0_3 a0_4 a0_5 a0_6 a0_7 a0_8).bind fun t263 => (if (t262 == t263) = true then (if t227.toList = bt229.1.toList then (if (t228 == bt229.2) = true then (if (bt231.1 == bt242.1 && (bt231.2.1 == bt242.2.1 && (bt231.2.2.1 == bt242.2.2.1 && (bt231.2.2.2.1 == bt242.2.2.2.1 && (bt231.2.2.2.2.1 == bt242.2.2.2.2.1 && (bt231.2.2.2.2.2.1 == bt242.2.2.2.2.2.1 && (bt231.2.2.2.2.2.2.1 == bt242.2.2.2.2.2.2.1 && (bt231.2.2.2.2.2.2.2.1 == bt242.2.2.2.2.2.2.2.1 && (bt231.2.2.2.2.2.2.2.2.1 == bt242.2.2.2.2.2.2.2.2.1))))))))) = true then (if (bt231.2.2.2.2.2.2.2.2.2 == bt242.2.2.2.2.2.2.2.2.2) = true then ((ref23_Same.f k bt253.1 bt257.1).bind fun t264 => (if t264 = true then (some (bt253.2 == bt257.2)) else (none))) else (none)) else (none)) else (none)) else (none)) else (none)))) else (none)))))))) = some r := H
  have A7 := Aside0.mk A70
  clear A70
  replace H := Option.bind_eq_some_iff.mp H
  obtain ⟨⟨t229, t230⟩, A80, H⟩ := H
  replace H : ((audit_Get.f k a1).bind fun bt231 => ((ref23_Get.f a1).bind fun bt242 => ((audit_All.f k a1).bind fun bt253 => ((ref23_All.f k a1).bind fun bt257 => ((law23_awake.f k).bind fun t261 => (if t261 = true then ((audit_Right.f k a0_0 a0_1 a0_2 a0_3 a0_4 a0_5 a0_6 a0_7 a0_8).bind fun t262 => ((ref23_Right.f a0_0 a0_1 a0_2 a0_3 a0_4 a0_5 a0_6 a0_7 a0_8).bind fun t263 => (if (t262 == t263) = true then (if t227.toList = t229.toList then (if (t228 == t230) = true then (if (bt231.1 == bt242.1 && (bt231.2.1 == bt242.2.1 && (bt231.2.2.1 == bt242.2.2.1 && (bt231.2.2.2.1 == bt242.2.2.2.1 && (bt231.2.2.2.2.1 == bt242.2.2.2.2.1 && (bt231.2.2.2.2.2.1 == bt242.2.2.2.2.2.1 && (bt231.2.2.2.2.2.2.1 == bt242.2.2.2.2.2.2.1 && (bt231.2.2.2.2.2.2.2.1 == bt242.2.2.2.2.2.2.2.1 && (bt231.2.2.2.2.2.2.2.2.1 == bt242.2.2.2.2.2.2.2.2.1))))))))) = true then (if (bt231.2.2.2.2.2.2.2.2.2 == bt242.2.2.2.2.2.2.2.2.2) = true then ((ref23_Same.f k bt253.1 bt257.1).bind fun t264 => (if t264 = true then (some (bt253.2 == bt257.2)) else (none))) else (none)) else (none)) else (none)) else (none)) else (none)))) else (none))))))) = some r := H
  have A8 := Aside0.mk A80
  clear A80
  replace H := Option.bind_eq_some_iff.mp H
  obtain ⟨⟨t231, t232, t233, t234, t235, t236, t237, t238, t239, t240⟩, A90, H⟩ := H
  replace H : ((ref23_Get.f a1).bind fun bt242 => ((audit_All.f k a1).bind fun bt253 => ((ref23_All.f k a1).bind fun bt257 => ((law23_awake.f k).bind fun t261 => (if t261 = true then ((audit_Right.f k a0_0 a0_1 a0_2 a0_3 a0_4 a0_5 a0_6 a0_7 a0_8).bind fun t262 => ((ref23_Right.f a0_0 a0_1 a0_2 a0_3 a0_4 a0_5 a0_6 a0_7 a0_8).bind fun t263 => (if (t262 == t263) = true then (if t227.toList = t229.toList then (if (t228 == t230) = true then (if (t231 == bt242.1 && (t232 == bt242.2.1 && (t233 == bt242.2.2.1 && (t234 == bt242.2.2.2.1 && (t235 == bt242.2.2.2.2.1 && (t236 == bt242.2.2.2.2.2.1 && (t237 == bt242.2.2.2.2.2.2.1 && (t238 == bt242.2.2.2.2.2.2.2.1 && (t239 == bt242.2.2.2.2.2.2.2.2.1))))))))) = true then (if (t240 == bt242.2.2.2.2.2.2.2.2.2) = true then ((ref23_Same.f k bt253.1 bt257.1).bind fun t264 => (if t264 = true then (some (bt253.2 == bt257.2)) else (none))) else (none)) else (none)) else (none)) else (none)) else (none)))) else (none)))))) = some r := H
  have A9 := Aside0.mk A90
  clear A90
  replace H := Option.bind_eq_some_iff.mp H
  obtain ⟨⟨t242, t243, t244, t245, t246, t247, t248, t249, t250, t251⟩, A100, H⟩ := H
  replace H : ((audit_All.f k a1).bind fun bt253 => ((ref23_All.f k a1).bind fun bt257 => ((law23_awake.f k).bind fun t261 => (if t261 = true then ((audit_Right.f k a0_0 a0_1 a0_2 a0_3 a0_4 a0_5 a0_6 a0_7 a0_8).bind fun t262 => ((ref23_Right.f a0_0 a0_1 a0_2 a0_3 a0_4 a0_5 a0_6 a0_7 a0_8).bind fun t263 => (if (t262 == t263) = true then (if t227.toList = t229.toList then (if (t228 == t230) = true then (if (t231 == t242 && (t232 == t243 && (t233 == t244 && (t234 == t245 && (t235 == t246 && (t236 == t247 && (t237 == t248 && (t238 == t249 && (t239 == t250))))))))) = true then (if (t240 == t251) = true then ((ref23_Same.f k bt253.1 bt257.1).bind fun t264 => (if t264 = true then (some (bt253.2 == bt257.2)) else (none))) else (none)) else (none)) else (none)) else (none)) else (none)))) else (none))))) = some r := H
  have A10 := Aside0.mk A100
  clear A100
  replace H := Option.bind_eq_some_iff.mp H
  obtain ⟨⟨t253, t254⟩, A110, H⟩ := H
  replace H : ((ref23_All.f k a1).bind fun bt257 => ((law23_awake.f k).bind fun t261 => (if t261 = true then ((audit_Right.f k a0_0 a0_1 a0_2 a0_3 a0_4 a0_5 a0_6 a0_7 a0_8).bind fun t262 => ((ref23_Right.f a0_0 a0_1 a0_2 a0_3 a0_4 a0_5 a0_6 a0_7 a0_8).bind fun t263 => (if (t262 == t263) = true then (if t227.toList = t229.toList then (if (t228 == t230) = true then (if (t231 == t242 && (t232 == t243 && (t233 == t244 && (t234 == t245 && (t235 == t246 && (t236 == t247 && (t237 == t248 && (t238 == t249 && (t239 == t250))))))))) = true then (if (t240 == t251) = true then ((ref23_Same.f k t253 bt257.1).bind fun t264 => (if t264 = true then (some (t254 == bt257.2)) else (none))) else (none)) else (none)) else (none)) else (none)) else (none)))) else (none)))) = some r := H
  have A11 := Aside0.mk A110
  clear A110
  replace H := Option.bind_eq_some_iff.mp H
  obtain ⟨⟨t257, t258⟩, A120, H⟩ := H
  replace H : ((law23_awake.f k).bind fun t261 => (if t261 = true then ((audit_Right.f k a0_0 a0_1 a0_2 a0_3 a0_4 a0_5 a0_6 a0_7 a0_8).bind fun t262 => ((ref23_Right.f a0_0 a0_1 a0_2 a0_3 a0_4 a0_5 a0_6 a0_7 a0_8).bind fun t263 => (if (t262 == t263) = true then (if t227.toList = t229.toList then (if (t228 == t230) = true then (if (t231 == t242 && (t232 == t243 && (t233 == t244 && (t234 == t245 && (t235 == t246 && (t236 == t247 && (t237 == t248 && (t238 == t249 && (t239 == t250))))))))) = true then (if (t240 == t251) = true then ((ref23_Same.f k t253 t257).bind fun t264 => (if t264 = true then (some (t254 == t258)) else (none))) else (none)) else (none)) else (none)) else (none)) else (none)))) else (none))) = some r := H
  have A12 := Aside0.mk A120
  clear A120
  replace H := Option.bind_eq_some_iff.mp H
  obtain ⟨t261, A130, H⟩ := H
  replace H : (if t261 = true then ((audit_Right.f k a0_0 a0_1 a0_2 a0_3 a0_4 a0_5 a0_6 a0_7 a0_8).bind fun t262 => ((ref23_Right.f a0_0 a0_1 a0_2 a0_3 a0_4 a0_5 a0_6 a0_7 a0_8).bind fun t263 => (if (t262 == t263) = true then (if t227.toList = t229.toList then (if (t228 == t230) = true then (if (t231 == t242 && (t232 == t243 && (t233 == t244 && (t234 == t245 && (t235 == t246 && (t236 == t247 && (t237 == t248 && (t238 == t249 && (t239 == t250))))))))) = true then (if (t240 == t251) = true then ((ref23_Same.f k t253 t257).bind fun t264 => (if t264 = true then (some (t254 == t258)) else (none))) else (none)) else (none)) else (none)) else (none)) else (none)))) else (none)) = some r := H
  have A13 := Aside0.mk A130
  clear A130
  by_cases c14 : t261 = true
  ·subst c14
   have H1 : ((audit_Right.f k a0_0 a0_1 a0_2 a0_3 a0_4 a0_5 a0_6 a0_7 a0_8).bind fun t262 => ((ref23_Right.f a0_0 a0_1 a0_2 a0_3 a0_4 a0_5 a0_6 a0_7 a0_8).bind fun t263 => (if (t262 == t263) = true then (if t227.toList = t229.toList then (if (t228 == t230) = true then (if (t231 == t242 && (t232 == t243 && (t233 == t244 && (t234 == t245 && (t235 == t246 && (t236 == t247 && (t237 == t248 && (t238 == t249 && (t239 == t250))))))))) = true then (if (t240 == t251) = true then ((ref23_Same.f k t253 t257).bind fun t264 => (if t264 = true then (some (t254 == t258)) else (none))) else (none)) else (none)) else (none)) else (none)) else (none)))) = some r := by rw [if_pos rfl] at H; exact H
   clear H
   have H := H1
   clear H1
   replace H := Option.bind_eq_some_iff.mp H
   obtain ⟨t262, A150, H⟩ := H
   replace H : ((ref23_Right.f a0_0 a0_1 a0_2 a0_3 a0_4 a0_5 a0_6 a0_7 a0_8).bind fun t263 => (if (t262 == t263) = true then (if t227.toList = t229.toList then (if (t228 == t230) = true then (if (t231 == t242 && (t232 == t243 && (t233 == t244 && (t234 == t245 && (t235 == t246 && (t236 == t247 && (t237 == t248 && (t238 == t249 && (t239 == t250))))))))) = true then (if (t240 == t251) = true then ((ref23_Same.f k t253 t257).bind fun t264 => (if t264 = true then (some (t254 == t258)) else (none))) else (none)) else (none)) else (none)) else (none)) else (none))) = some r := H
   have A15 := Aside0.mk A150
   clear A150
   replace H := Option.bind_eq_some_iff.mp H
   obtain ⟨t263, A160, H⟩ := H
   replace H : (if (t262 == t263) = true then (if t227.toList = t229.toList then (if (t228 == t230) = true then (if (t231 == t242 && (t232 == t243 && (t233 == t244 && (t234 == t245 && (t235 == t246 && (t236 == t247 && (t237 == t248 && (t238 == t249 && (t239 == t250))))))))) = true then (if (t240 == t251) = true then ((ref23_Same.f k t253 t257).bind fun t264 => (if t264 = true then (some (t254 == t258)) else (none))) else (none)) else (none)) else (none)) else (none)) else (none)) = some r := H
   have A16 := Aside0.mk A160
   clear A160
   by_cases c17 : (t262 == t263) = true
   ·rw [if_pos c17] at H
    have c17b0 : (t262 == t263) = true := c17
    (try (have c17b1 : decide (t262 = t263) = true := by simpa using c17))
    (try (have c17b2 : (t262 == t263) = true := by simpa using c17))
    clear c17
    by_cases c18 : t227.toList = t229.toList
    rotate_left
    ·rw [if_neg c18] at H
     have c18b0 : (t227.toList == t229.toList) = false := beq_eq_false_iff_ne.mpr c18
     have c18b1 : (t227.toList != t229.toList) = true := bne_iff_ne.mpr c18
     exact absurd H (by simp)
    rw [if_pos c18] at H
    have c18b0 : (t227.toList == t229.toList) = true := beq_iff_eq.mpr c18
    have c18b1 : (t227.toList != t229.toList) = false := bne_eq_false_iff_eq.mpr c18
    clear c18
    by_cases c19 : (t228 == t230) = true
    ·rw [if_pos c19] at H
     have c19b0 : (t228 == t230) = true := c19
     (try (have c19b1 : decide (t228 = t230) = true := by simpa using c19))
     (try (have c19b2 : (t228 == t230) = true := by simpa using c19))
     clear c19
     by_cases c20 : (t231 == t242 && (t232 == t243 && (t233 == t244 && (t234 == t245 && (t235 == t246 && (t236 == t247 && (t237 == t248 && (t238 == t249 && (t239 == t250))))))))) = true
     ·rw [if_pos c20] at H
      have c20b0 : (t231 == t242 && (t232 == t243 && (t233 == t244 && (t234 == t245 && (t235 == t246 && (t236 == t247 && (t237 == t248 && (t238 == t249 && (t239 == t250))))))))) = true := c20
      (try (have c20b1 : decide (t231 = t242 && (t232 == t243 && (t233 == t244 && (t234 == t245 && (t235 == t246 && (t236 == t247 && (t237 == t248 && (t238 == t249 && (t239 == t250))))))))) = true := by simpa using c20))
      (try (have c20b2 : (t231 == t242 && (t232 == t243 && (t233 == t244 && (t234 == t245 && (t235 == t246 && (t236 == t247 && (t237 == t248 && (t238 == t249 && (t239 == t250))))))))) = true := by simpa using c20))
      clear c20
      by_cases c21 : (t240 == t251) = true
      ·rw [if_pos c21] at H
       have c21b0 : (t240 == t251) = true := c21
       (try (have c21b1 : decide (t240 = t251) = true := by simpa using c21))
       (try (have c21b2 : (t240 == t251) = true := by simpa using c21))
       clear c21
       replace H := Option.bind_eq_some_iff.mp H
       obtain ⟨t264, A220, H⟩ := H
       replace H : (if t264 = true then (some (t254 == t258)) else (none)) = some r := H
       have A22 := Aside0.mk A220
       clear A220
       by_cases c23 : t264 = true
       ·subst c23
        have H1 : (some (t254 == t258)) = some r := by rw [if_pos rfl] at H; exact H
        clear H
        have H := H1
        clear H1
        obtain rfl := Option.some.inj H
        go_enter Try.func3, Try.ntmps3
        try go_wp2_with (first | ((with_reducible refine gate_dst (N := 2) rfl ?_); refine box_event ?hg (N := 2) ?hd (cs := #[.int .i64 a0_0, .int .i64 a0_1, .int .i64 a0_2, .int .i64 a0_3, .int .i64 a0_4, .int .i64 a0_5, .int .i64 a0_6, .int .i64 a0_7, .int .i64 a0_8]) (t := 23) ?hr ?_; (case hd => rfl); (case hg => rfl); (case hr => first | (go_simp; done) | (go_simp; rfl)); intro gb225 hg w24 hbox hb; have n0_ := Aside0.mk (below_step (by repeat (first | (with_reducible first | exact HB.out | apply below_alloc | apply pw_below_drewN | apply below_drew1) | exact HB.out)) hb); have n1_ := Aside0.mk (hbox); have n2_ := Aside0.mk ((by rw [hg]; exact (below_size (by repeat (first | (with_reducible first | exact HB.out | apply below_alloc | apply pw_below_drewN | apply below_drew1) | exact HB.out))) : w.heap.size ≤ gb225)); have n3_ := Aside0.mk ((by rw [hg]; exact (below_size (by repeat (first | (with_reducible first | exact HB.out | apply below_alloc | apply pw_below_drewN | apply below_drew1) | exact HB.out))) : w.heap.size ≤ gb225)); clear HB; have HB := n0_; have BK225 := n1_; have GW225 := n2_; have GE225 := n3_; clear n0_ n1_ n2_ n3_; clear hb hbox hg; have hcz25_0 : w24.cell? ⟨gb225, 0, none⟩ = some (.int .i64 a0_0) := (blk_cell BK225.out 0).trans rfl; have hcz25_1 : w24.cell? ⟨gb225, 1, none⟩ = some (.int .i64 a0_1) := (blk_cell BK225.out 1).trans rfl; have hcz25_2 : w24.cell? ⟨gb225, 2, none⟩ = some (.int .i64 a0_2) := (blk_cell BK225.out 2).trans rfl; have hcz25_3 : w24.cell? ⟨gb225, 3, none⟩ = some (.int .i64 a0_3) := (blk_cell BK225.out 3).trans rfl; have hcz25_4 : w24.cell? ⟨gb225, 4, none⟩ = some (.int .i64 a0_4) := (blk_cell BK225.out 4).trans rfl; have hcz25_5 : w24.cell? ⟨gb225, 5, none⟩ = some (.int .i64 a0_5) := (blk_cell BK225.out 5).trans rfl; have hcz25_6 : w24.cell? ⟨gb225, 6, none⟩ = some (.int .i64 a0_6) := (blk_cell BK225.out 6).trans rfl; have hcz25_7 : w24.cell? ⟨gb225, 7, none⟩ = some (.int .i64 a0_7) := (blk_cell BK225.out 7).trans rfl; have hcz25_8 : w24.cell? ⟨gb225, 8, none⟩ = some (.int .i64 a0_8) := (blk_cell BK225.out 8).trans rfl; have hfz25_0 := blk_frozen BK225.out 0; have hfz25_1 := blk_frozen BK225.out 1; have hfz25_2 := blk_frozen BK225.out 2; have hfz25_3 := blk_frozen BK225.out 3; have hfz25_4 := blk_frozen BK225.out 4; have hfz25_5 := blk_frozen BK225.out 5; have hfz25_6 := blk_frozen BK225.out 6; have hfz25_7 := blk_frozen BK225.out 7; have hfz25_8 := blk_frozen BK225.out 8) | ((with_reducible refine gate_callee (f := 6) rfl ?_); refine goesL_ (some 23) rfl rfl Try.func6 (by kernel_rfl) rfl #[.agg #[.int .i64 a0_0, .int .i64 a0_1, .int .i64 a0_2, .int .i64 a0_3, .int .i64 a0_4, .int .i64 a0_5, .int .i64 a0_6, .int .i64 a0_7, .int .i64 a0_8]] rfl (by (try simp only [List.map_toArray, List.map_cons, List.map_nil]); first | done | rfl | (simp only [List.length_drop, List.length_take]; rfl)) ?_; (with_reducible refine (audit_Put.calls k a0_0 a0_1 a0_2 a0_3 a0_4 a0_5 a0_6 a0_7 a0_8 t227 t228 _ A7.out).mono ?_); rintro e w26 ⟨rfl, hb⟩; refine ⟨_, rfl, ?_⟩; have n0_ := Aside0.mk (blk_below (g := gb225) (o := .cells #[.int .i64 a0_0, .int .i64 a0_1, .int .i64 a0_2, .int .i64 a0_3, .int .i64 a0_4, .int .i64 a0_5, .int .i64 a0_6, .int .i64 a0_7, .int .i64 a0_8] 23 (0, 0)) (by (with_reducible repeat (first | refine blk_drewN ?_ _ | refine blk_drew ?_ | refine blk_alloc ?_ _)); exact BK225.out) hb); have n1_ := Aside0.mk (below_step (by repeat (first | (with_reducible first | exact HB.out | apply below_alloc | apply pw_below_drewN | apply below_drew1 | refine below_set ?_ GE225.out) | exact HB.out)) hb); clear BK225; clear HB; have BK225 := n0_; have HB := n1_; clear n0_ n1_; (try clear hb); (try clear hb2); (try clear hk); (try clear hi); have hcz27_0 : w26.cell? ⟨gb225, 0, none⟩ = some (.int .i64 a0_0) := (blk_cell BK225.out 0).trans rfl; have hcz27_1 : w26.cell? ⟨gb225, 1, none⟩ = some (.int .i64 a0_1) := (blk_cell BK225.out 1).trans rfl; have hcz27_2 : w26.cell? ⟨gb225, 2, none⟩ = some (.int .i64 a0_2) := (blk_cell BK225.out 2).trans rfl; have hcz27_3 : w26.cell? ⟨gb225, 3, none⟩ = some (.int .i64 a0_3) := (blk_cell BK225.out 3).trans rfl; have hcz27_4 : w26.cell? ⟨gb225, 4, none⟩ = some (.int .i64 a0_4) := (blk_cell BK225.out 4).trans rfl; have hcz27_5 : w26.cell? ⟨gb225, 5, none⟩ = some (.int .i64 a0_5) := (blk_cell BK225.out 5).trans rfl; have hcz27_6 : w26.cell? ⟨gb225, 6, none⟩ = some (.int .i64 a0_6) := (blk_cell BK225.out 6).trans rfl; have hcz27_7 : w26.cell? ⟨gb225, 7, none⟩ = some (.int .i64 a0_7) := (blk_cell BK225.out 7).trans rfl; have hcz27_8 : w26.cell? ⟨gb225, 8, none⟩ = some (.int .i64 a0_8) := (blk_cell BK225.out 8).trans rfl; have hfz27_0 := blk_frozen BK225.out 0; have hfz27_1 := blk_frozen BK225.out 1; have hfz27_2 := blk_frozen BK225.out 2; have hfz27_3 := blk_frozen BK225.out 3; have hfz27_4 := blk_frozen BK225.out 4; have hfz27_5 := blk_frozen BK225.out 5; have hfz27_6 := blk_frozen BK225.out 6; have hfz27_7 := blk_frozen BK225.out 7; have hfz27_8 := blk_frozen BK225.out 8) | ((with_reducible refine gate_callee (f := 7) rfl ?_); refine goesL_ (some 28) rfl rfl Try.func7 (by kernel_rfl) rfl #[.agg #[.int .i64 a0_0, .int .i64 a0_1, .int .i64 a0_2, .int .i64 a0_3, .int .i64 a0_4, .int .i64 a0_5, .int .i64 a0_6, .int .i64 a0_7, .int .i64 a0_8]] rfl (by (try simp only [List.map_toArray, List.map_cons, List.map_nil]); first | done | rfl | (simp only [List.length_drop, List.length_take]; rfl)) ?_; (with_reducible refine (ref23_Put.calls a0_0 a0_1 a0_2 a0_3 a0_4 a0_5 a0_6 a0_7 a0_8 t229 t230 _ A8.out).mono ?_); rintro e w28 ⟨rfl, hb⟩; refine ⟨_, rfl, ?_⟩; have n0_ := Aside0.mk (blk_below (g := gb225) (o := .cells #[.int .i64 a0_0, .int .i64 a0_1, .int .i64 a0_2, .int .i64 a0_3, .int .i64 a0_4, .int .i64 a0_5, .int .i64 a0_6, .int .i64 a0_7, .int .i64 a0_8] 23 (0, 0)) (by (with_reducible repeat (first | refine blk_drewN ?_ _ | refine blk_drew ?_ | refine blk_alloc ?_ _)); exact BK225.out) hb); have n1_ := Aside0.mk (below_step (by repeat (first | (with_reducible first | exact HB.out | apply below_alloc | apply pw_below_drewN | apply below_drew1 | refine below_set ?_ GE225.out) | exact HB.out)) hb); clear BK225; clear HB; have BK225 := n0_; have HB := n1_; clear n0_ n1_; (try clear hb); (try clear hb2); (try clear hk); (try clear hi)) | ((with_reducible refine gate_callee (f := 8) rfl ?_); refine goesL_ (some 33) rfl rfl Try.func8 (by kernel_rfl) rfl #[.string a1] rfl (by (try simp only [List.map_toArray, List.map_cons, List.map_nil]); first | done | rfl | (simp only [List.length_drop, List.length_take]; rfl)) ?_; (with_reducible refine (audit_Get.calls k a1 t231 t232 t233 t234 t235 t236 t237 t238 t239 t240 _ A9.out).mono ?_); rintro e w29 ⟨rfl, hb⟩; refine ⟨_, rfl, ?_⟩; have n0_ := Aside0.mk (blk_below (g := gb225) (o := .cells #[.int .i64 a0_0, .int .i64 a0_1, .int .i64 a0_2, .int .i64 a0_3, .int .i64 a0_4, .int .i64 a0_5, .int .i64 a0_6, .int .i64 a0_7, .int .i64 a0_8] 23 (0, 0)) (by (with_reducible repeat (first | refine blk_drewN ?_ _ | refine blk_drew ?_ | refine blk_alloc ?_ _)); exact BK225.out) hb); have n1_ := Aside0.mk (below_step (by repeat (first | (with_reducible first | exact HB.out | apply below_alloc | apply pw_below_drewN | apply below_drew1 | refine below_set ?_ GE225.out) | exact HB.out)) hb); clear BK225; clear HB; have BK225 := n0_; have HB := n1_; clear n0_ n1_; (try clear hb); (try clear hb2); (try clear hk); (try clear hi)) | ((with_reducible refine gate_dst (N := 9) rfl ?_); refine box_event ?hg (N := 9) ?hd (cs := #[.int .i64 0, .int .i64 0, .int .i64 0, .int .i64 0, .int .i64 0, .int .i64 0, .int .i64 0, .int .i64 0, .int .i64 0]) (t := 23) ?hr ?_; (case hd => rfl); (case hg => rfl); (case hr => first | (go_simp; done) | (go_simp; rfl)); intro gb241 hg w30 hbox hb; have n0_ := Aside0.mk (blk_below (g := gb225) (o := .cells #[.int .i64 a0_0, .int .i64 a0_1, .int .i64 a0_2, .int .i64 a0_3, .int .i64 a0_4, .int .i64 a0_5, .int .i64 a0_6, .int .i64 a0_7, .int .i64 a0_8] 23 (0, 0)) (by (with_reducible repeat (first | refine blk_drewN ?_ _ | refine blk_drew ?_ | refine blk_alloc ?_ _)); exact BK225.out) hb); have n1_ := Aside0.mk (below_step (by repeat (first | (with_reducible first | exact HB.out | apply below_alloc | apply pw_below_drewN | apply below_drew1 | refine below_set ?_ GE225.out) | exact HB.out)) hb); have n2_ := Aside0.mk (hbox); have n3_ := Aside0.mk ((by rw [hg]; exact (below_size (by repeat (first | (with_reducible first | exact HB.out | apply below_alloc | apply pw_below_drewN | apply below_drew1 | refine below_set ?_ GE225.out) | exact HB.out))) : w.heap.size ≤ gb241)); have n4_ := Aside0.mk ((by rw [hg]; exact (below_size (by repeat (first | (with_reducible first | exact HB.out | apply below_alloc | apply pw_below_drewN | apply below_drew1 | refine below_set ?_ GE225.out) | exact HB.out))) : w.heap.size ≤ gb241)); have n5_ := Aside0.mk ((by rw [hg]; exact Nat.ne_of_lt (blk_lt (g := gb225) (o := .cells #[.int .i64 a0_0, .int .i64 a0_1, .int .i64 a0_2, .int .i64 a0_3, .int .i64 a0_4, .int .i64 a0_5, .int .i64 a0_6, .int .i64 a0_7, .int .i64 a0_8] 23 (0, 0)) (by (with_reducible repeat (first | refine blk_drewN ?_ _ | refine blk_drew ?_ | refine blk_alloc ?_ _)); exact BK225.out)) : gb225 ≠ gb241)); have n6_ := Aside0.mk ((by rw [hg]; exact Nat.ne_of_gt (blk_lt (g := gb225) (o := .cells #[.int .i64 a0_0, .int .i64 a0_1, .int .i64 a0_2, .int .i64 a0_3, .int .i64 a0_4, .int .i64 a0_5, .int .i64 a0_6, .int .i64 a0_7, .int .i64 a0_8] 23 (0, 0)) (by (with_reducible repeat (first | refine blk_drewN ?_ _ | refine blk_drew ?_ | refine blk_alloc ?_ _)); exact BK225.out)) : gb241 ≠ gb225)); clear BK225; clear HB; have BK225 := n0_; have HB := n1_; have BK241 := n2_; have GW241 := n3_; have GE241 := n4_; have NB225_241 := n5_; have NB241_225 := n6_; clear n0_ n1_ n2_ n3_ n4_ n5_ n6_; clear hb hbox hg; have hnb31 := NB241_225.out; have hnc31 := NB225_241.out; have hcz32_0 : w30.cell? ⟨gb241, 0, none⟩ = some (.int .i64 0) := (blk_cell BK241.out 0).trans rfl; have hcz32_1 : w30.cell? ⟨gb241, 1, none⟩ = some (.int .i64 0) := (blk_cell BK241.out 1).trans rfl; have hcz32_2 : w30.cell? ⟨gb241, 2, none⟩ = some (.int .i64 0) := (blk_cell BK241.out 2).trans rfl; have hcz32_3 : w30.cell? ⟨gb241, 3, none⟩ = some (.int .i64 0) := (blk_cell BK241.out 3).trans rfl; have hcz32_4 : w30.cell? ⟨gb241, 4, none⟩ = some (.int .i64 0) := (blk_cell BK241.out 4).trans rfl; have hcz32_5 : w30.cell? ⟨gb241, 5, none⟩ = some (.int .i64 0) := (blk_cell BK241.out 5).trans rfl; have hcz32_6 : w30.cell? ⟨gb241, 6, none⟩ = some (.int .i64 0) := (blk_cell BK241.out 6).trans rfl; have hcz32_7 : w30.cell? ⟨gb241, 7, none⟩ = some (.int .i64 0) := (blk_cell BK241.out 7).trans rfl; have hcz32_8 : w30.cell? ⟨gb241, 8, none⟩ = some (.int .i64 0) := (blk_cell BK241.out 8).trans rfl; have hfz32_0 := blk_frozen BK241.out 0; have hfz32_1 := blk_frozen BK241.out 1; have hfz32_2 := blk_frozen BK241.out 2; have hfz32_3 := blk_frozen BK241.out 3; have hfz32_4 := blk_frozen BK241.out 4; have hfz32_5 := blk_frozen BK241.out 5; have hfz32_6 := blk_frozen BK241.out 6; have hfz32_7 := blk_frozen BK241.out 7; have hfz32_8 := blk_frozen BK241.out 8) | ((with_reducible refine gate_callee (f := 9) rfl ?_); refine goesL_ (some 38) rfl rfl Try.func9 (by kernel_rfl) rfl #[.string a1] rfl (by (try simp only [List.map_toArray, List.map_cons, List.map_nil]); first | done | rfl | (simp only [List.length_drop, List.length_take]; rfl)) ?_; (with_reducible refine (ref23_Get.calls a1 t242 t243 t244 t245 t246 t247 t248 t249 t250 t251 _ A10.out).mono ?_); rintro e w33 ⟨rfl, hb⟩; refine ⟨_, rfl, ?_⟩; have n0_ := Aside0.mk (blk_below (g := gb225) (o := .cells #[.int .i64 a0_0, .int .i64 a0_1, .int .i64 a0_2, .int .i64 a0_3, .int .i64 a0_4, .int .i64 a0_5, .int .i64 a0_6, .int .i64 a0_7, .int .i64 a0_8] 23 (0, 0)) (by (with_reducible repeat (first | refine blk_drewN ?_ _ | refine blk_drew ?_ | refine blk_alloc ?_ _)); refine blk_far ?_ NB225_241.out _; (with_reducible repeat (first | refine blk_drewN ?_ _ | refine blk_drew ?_ | refine blk_alloc ?_ _)); refine blk_far ?_ NB225_241.out _; (with_reducible repeat (first | refine blk_drewN ?_ _ | refine blk_drew ?_ | refine blk_alloc ?_ _)); refine blk_far ?_ NB225_241.out _; (with_reducible repeat (first | refine blk_drewN ?_ _ | refine blk_drew ?_ | refine blk_alloc ?_ _)); refine blk_far ?_ NB225_241.out _; (with_reducible repeat (first | refine blk_drewN ?_ _ | refine blk_drew ?_ | refine blk_alloc ?_ _)); refine blk_far ?_ NB225_241.out _; (with_reducible repeat (first | refine blk_drewN ?_ _ | refine blk_drew ?_ | refine blk_alloc ?_ _)); refine blk_far ?_ NB225_241.out _; (with_reducible repeat (first | refine blk_drewN ?_ _ | refine blk_drew ?_ | refine blk_alloc ?_ _)); refine blk_far ?_ NB225_241.out _; (with_reducible repeat (first | refine blk_drewN ?_ _ | refine blk_drew ?_ | refine blk_alloc ?_ _)); refine blk_far ?_ NB225_241.out _; (with_reducible repeat (first | refine blk_drewN ?_ _ | refine blk_drew ?_ | refine blk_alloc ?_ _)); refine blk_far ?_ NB225_241.out _; (with_reducible repeat (first | refine blk_drewN ?_ _ | refine blk_drew ?_ | refine blk_alloc ?_ _)); exact BK225.out) hb); have n1_ := Aside0.mk (blk_below (g := gb241) (o := .cells #[.int .i64 t231, .int .i64 t232, .int .i64 t233, .int .i64 t234, .int .i64 t235, .int .i64 t236, .int .i64 t237, .int .i64 t238, .int .i64 t239] 23 (0, 0)) (by (with_reducible repeat (first | refine blk_drewN ?_ _ | refine blk_drew ?_ | refine blk_alloc ?_ _)); refine blk_put (cs := #[.int .i64 t231, .int .i64 t232, .int .i64 t233, .int .i64 t234, .int .i64 t235, .int .i64 t236, .int .i64 t237, .int .i64 t238, .int .i64 0]) ?_ 8 _ rfl; (with_reducible repeat (first | refine blk_drewN ?_ _ | refine blk_drew ?_ | refine blk_alloc ?_ _)); refine blk_put (cs := #[.int .i64 t231, .int .i64 t232, .int .i64 t233, .int .i64 t234, .int .i64 t235, .int .i64 t236, .int .i64 t237, .int .i64 0, .int .i64 0]) ?_ 7 _ rfl; (with_reducible repeat (first | refine blk_drewN ?_ _ | refine blk_drew ?_ | refine blk_alloc ?_ _)); refine blk_put (cs := #[.int .i64 t231, .int .i64 t232, .int .i64 t233, .int .i64 t234, .int .i64 t235, .int .i64 t236, .int .i64 0, .int .i64 0, .int .i64 0]) ?_ 6 _ rfl; (with_reducible repeat (first | refine blk_drewN ?_ _ | refine blk_drew ?_ | refine blk_alloc ?_ _)); refine blk_put (cs := #[.int .i64 t231, .int .i64 t232, .int .i64 t233, .int .i64 t234, .int .i64 t235, .int .i64 0, .int .i64 0, .int .i64 0, .int .i64 0]) ?_ 5 _ rfl; (with_reducible repeat (first | refine blk_drewN ?_ _ | refine blk_drew ?_ | refine blk_alloc ?_ _)); refine blk_put (cs := #[.int .i64 t231, .int .i64 t232, .int .i64 t233, .int .i64 t234, .int .i64 0, .int .i64 0, .int .i64 0, .int .i64 0, .int .i64 0]) ?_ 4 _ rfl; (with_reducible repeat (first | refine blk_drewN ?_ _ | refine blk_drew ?_ | refine blk_alloc ?_ _)); refine blk_put (cs := #[.int .i64 t231, .int .i64 t232, .int .i64 t233, .int .i64 0, .int .i64 0, .int .i64 0, .int .i64 0, .int .i64 0, .int .i64 0]) ?_ 3 _ rfl; (with_reducible repeat (first | refine blk_drewN ?_ _ | refine blk_drew ?_ | refine blk_alloc ?_ _)); refine blk_put (cs := #[.int .i64 t231, .int .i64 t232, .int .i64 0, .int .i64 0, .int .i64 0, .int .i64 0, .int .i64 0, .int .i64 0, .int .i64 0]) ?_ 2 _ rfl; (with_reducible repeat (first | refine blk_drewN ?_ _ | refine blk_drew ?_ | refine blk_alloc ?_ _)); refine blk_put (cs := #[.int .i64 t231, .int .i64 0, .int .i64 0, .int .i64 0, .int .i64 0, .int .i64 0, .int .i64 0, .int .i64 0, .int .i64 0]) ?_ 1 _ rfl; (with_reducible repeat (first | refine blk_drewN ?_ _ | refine blk_drew ?_ | refine blk_alloc ?_ _)); refine blk_put (cs := #[.int .i64 0, .int .i64 0, .int .i64 0, .int .i64 0, .int .i64 0, .int .i64 0, .int .i64 0, .int .i64 0, .int .i64 0]) ?_ 0 _ rfl; (with_reducible repeat (first | refine blk_drewN ?_ _ | refine blk_drew ?_ | refine blk_alloc ?_ _)); exact BK241.out) hb); have n2_ := Aside0.mk (below_step (by repeat (first | (with_reducible first | exact HB.out | apply below_alloc | apply pw_below_drewN | apply below_drew1 | refine below_set ?_ GE225.out | refine below_set ?_ GE241.out) | exact HB.out)) hb); clear BK225; clear BK241; clear HB; have BK225 := n0_; have BK241 := n1_; have HB := n2_; clear n0_ n1_ n2_; (try clear hb); (try clear hb2); (try clear hk); (try clear hi)) | ((with_reducible refine gate_dst (N := 11) rfl ?_); refine box_event ?hg (N := 11) ?hd (cs := #[.int .i64 0, .int .i64 0, .int .i64 0, .int .i64 0, .int .i64 0, .int .i64 0, .int .i64 0, .int .i64 0, .int .i64 0]) (t := 23) ?hr ?_; (case hd => rfl); (case hg => rfl); (case hr => first | (go_simp; done) | (go_simp; rfl)); intro gb252 hg w34 hbox hb; have n0_ := Aside0.mk (blk_below (g := gb225) (o := .cells #[.int .i64 a0_0, .int .i64 a0_1, .int .i64 a0_2, .int .i64 a0_3, .int .i64 a0_4, .int .i64 a0_5, .int .i64 a0_6, .int .i64 a0_7, .int .i64 a0_8] 23 (0, 0)) (by (with_reducible repeat (first | refine blk_drewN ?_ _ | refine blk_drew ?_ | refine blk_alloc ?_ _)); exact BK225.out) hb); have n1_ := Aside0.mk (blk_below (g := gb241) (o := .cells #[.int .i64 t231, .int .i64 t232, .int .i64 t233, .int .i64 t234, .int .i64 t235, .int .i64 t236, .int .i64 t237, .int .i64 t238, .int .i64 t239] 23 (0, 0)) (by (with_reducible repeat (first | refine blk_drewN ?_ _ | refine blk_drew ?_ | refine blk_alloc ?_ _)); exact BK241.out) hb); have n2_ := Aside0.mk (below_step (by repeat (first | (with_reducible first | exact HB.out | apply below_alloc | apply pw_below_drewN | apply below_drew1 | refine below_set ?_ GE225.out | refine below_set ?_ GE241.out) | exact HB.out)) hb); have n3_ := Aside0.mk (hbox); have n4_ := Aside0.mk ((by rw [hg]; exact (below_size (by repeat (first | (with_reducible first | exact HB.out | apply below_alloc | apply pw_below_drewN | apply below_drew1 | refine below_set ?_ GE225.out | refine below_set ?_ GE241.out) | exact HB.out))) : w.heap.size ≤ gb252)); have n5_ := Aside0.mk ((by rw [hg]; exact (below_size (by repeat (first | (with_reducible first | exact HB.out | apply below_alloc | apply pw_below_drewN | apply below_drew1 | refine below_set ?_ GE225.out | refine below_set ?_ GE241.out) | exact HB.out))) : w.heap.size ≤ gb252)); have n6_ := Aside0.mk ((by rw [hg]; exact Nat.ne_of_lt (blk_lt (g := gb225) (o := .cells #[.int .i64 a0_0, .int .i64 a0_1, .int .i64 a0_2, .int .i64 a0_3, .int .i64 a0_4, .int .i64 a0_5, .int .i64 a0_6, .int .i64 a0_7, .int .i64 a0_8] 23 (0, 0)) (by (with_reducible repeat (first | refine blk_drewN ?_ _ | refine blk_drew ?_ | refine blk_alloc ?_ _)); exact BK225.out)) : gb225 ≠ gb252)); have n7_ := Aside0.mk ((by rw [hg]; exact Nat.ne_of_gt (blk_lt (g := gb225) (o := .cells #[.int .i64 a0_0, .int .i64 a0_1, .int .i64 a0_2, .int .i64 a0_3, .int .i64 a0_4, .int .i64 a0_5, .int .i64 a0_6, .int .i64 a0_7, .int .i64 a0_8] 23 (0, 0)) (by (with_reducible repeat (first | refine blk_drewN ?_ _ | refine blk_drew ?_ | refine blk_alloc ?_ _)); exact BK225.out)) : gb252 ≠ gb225)); have n8_ := Aside0.mk ((by rw [hg]; exact Nat.ne_of_lt (blk_lt (g := gb241) (o := .cells #[.int .i64 t231, .int .i64 t232, .int .i64 t233, .int .i64 t234, .int .i64 t235, .int .i64 t236, .int .i64 t237, .int .i64 t238, .int .i64 t239] 23 (0, 0)) (by (with_reducible repeat (first | refine blk_drewN ?_ _ | refine blk_drew ?_ | refine blk_alloc ?_ _)); exact BK241.out)) : gb241 ≠ gb252)); have n9_ := Aside0.mk ((by rw [hg]; exact Nat.ne_of_gt (blk_lt (g := gb241) (o := .cells #[.int .i64 t231, .int .i64 t232, .int .i64 t233, .int .i64 t234, .int .i64 t235, .int .i64 t236, .int .i64 t237, .int .i64 t238, .int .i64 t239] 23 (0, 0)) (by (with_reducible repeat (first | refine blk_drewN ?_ _ | refine blk_drew ?_ | refine blk_alloc ?_ _)); exact BK241.out)) : gb252 ≠ gb241)); clear BK225; clear BK241; clear HB; have BK225 := n0_; have BK241 := n1_; have HB := n2_; have BK252 := n3_; have GW252 := n4_; have GE252 := n5_; have NB225_252 := n6_; have NB252_225 := n7_; have NB241_252 := n8_; have NB252_241 := n9_; clear n0_ n1_ n2_ n3_ n4_ n5_ n6_ n7_ n8_ n9_; clear hb hbox hg; have hnb35 := NB252_225.out; have hnc35 := NB225_252.out; have hnb36 := NB252_241.out; have hnc36 := NB241_252.out; have hcz37_0 : w34.cell? ⟨gb252, 0, none⟩ = some (.int .i64 0) := (blk_cell BK252.out 0).trans rfl; have hcz37_1 : w34.cell? ⟨gb252, 1, none⟩ = some (.int .i64 0) := (blk_cell BK252.out 1).trans rfl; have hcz37_2 : w34.cell? ⟨gb252, 2, none⟩ = some (.int .i64 0) := (blk_cell BK252.out 2).trans rfl; have hcz37_3 : w34.cell? ⟨gb252, 3, none⟩ = some (.int .i64 0) := (blk_cell BK252.out 3).trans rfl; have hcz37_4 : w34.cell? ⟨gb252, 4, none⟩ = some (.int .i64 0) := (blk_cell BK252.out 4).trans rfl; have hcz37_5 : w34.cell? ⟨gb252, 5, none⟩ = some (.int .i64 0) := (blk_cell BK252.out 5).trans rfl; have hcz37_6 : w34.cell? ⟨gb252, 6, none⟩ = some (.int .i64 0) := (blk_cell BK252.out 6).trans rfl; have hcz37_7 : w34.cell? ⟨gb252, 7, none⟩ = some (.int .i64 0) := (blk_cell BK252.out 7).trans rfl; have hcz37_8 : w34.cell? ⟨gb252, 8, none⟩ = some (.int .i64 0) := (blk_cell BK252.out 8).trans rfl; have hfz37_0 := blk_frozen BK252.out 0; have hfz37_1 := blk_frozen BK252.out 1; have hfz37_2 := blk_frozen BK252.out 2; have hfz37_3 := blk_frozen BK252.out 3; have hfz37_4 := blk_frozen BK252.out 4; have hfz37_5 := blk_frozen BK252.out 5; have hfz37_6 := blk_frozen BK252.out 6; have hfz37_7 := blk_frozen BK252.out 7; have hfz37_8 := blk_frozen BK252.out 8) | ((with_reducible refine gate_callee (f := 10) rfl ?_); refine goesL_ (some 43) rfl rfl Try.func10 (by kernel_rfl) rfl #[.string a1] rfl (by (try simp only [List.map_toArray, List.map_cons, List.map_nil]); first | done | rfl | (simp only [List.length_drop, List.length_take]; rfl)) ?_; (with_reducible refine (audit_All.calls k a1 t253 t254 _ A11.out).mono ?_); rintro e w38 ⟨v255, rfl, ho0, hb⟩; refine ⟨_, rfl, ?_⟩; have n0_ := Aside0.mk (Kd.R_lower (Kd.R_newB (Kd.R_newB (Kd.R_newB ho0 (g := gb225) (o := .cells #[.int .i64 a0_0, .int .i64 a0_1, .int .i64 a0_2, .int .i64 a0_3, .int .i64 a0_4, .int .i64 a0_5, .int .i64 a0_6, .int .i64 a0_7, .int .i64 a0_8] 23 (0, 0)) (by (with_reducible repeat (first | refine blk_drewN ?_ _ | refine blk_drew ?_ | refine blk_alloc ?_ _)); refine blk_far ?_ NB225_252.out _; (with_reducible repeat (first | refine blk_drewN ?_ _ | refine blk_drew ?_ | refine blk_alloc ?_ _)); refine blk_far ?_ NB225_252.out _; (with_reducible repeat (first | refine blk_drewN ?_ _ | refine blk_drew ?_ | refine blk_alloc ?_ _)); refine blk_far ?_ NB225_252.out _; (with_reducible repeat (first | refine blk_drewN ?_ _ | refine blk_drew ?_ | refine blk_alloc ?_ _)); refine blk_far ?_ NB225_252.out _; (with_reducible repeat (first | refine blk_drewN ?_ _ | refine blk_drew ?_ | refine blk_alloc ?_ _)); refine blk_far ?_ NB225_252.out _; (with_reducible repeat (first | refine blk_drewN ?_ _ | refine blk_drew ?_ | refine blk_alloc ?_ _)); refine blk_far ?_ NB225_252.out _; (with_reducible repeat (first | refine blk_drewN ?_ _ | refine blk_drew ?_ | refine blk_alloc ?_ _)); refine blk_far ?_ NB225_252.out _; (with_reducible repeat (first | refine blk_drewN ?_ _ | refine blk_drew ?_ | refine blk_alloc ?_ _)); refine blk_far ?_ NB225_252.out _; (with_reducible repeat (first | refine blk_drewN ?_ _ | refine blk_drew ?_ | refine blk_alloc ?_ _)); refine blk_far ?_ NB225_252.out _; (with_reducible repeat (first | refine blk_drewN ?_ _ | refine blk_drew ?_ | refine blk_alloc ?_ _)); exact BK225.out)) (g := gb241) (o := .cells #[.int .i64 t231, .int .i64 t232, .int .i64 t233, .int .i64 t234, .int .i64 t235, .int .i64 t236, .int .i64 t237, .int .i64 t238, .int .i64 t239] 23 (0, 0)) (by (with_reducible repeat (first | refine blk_drewN ?_ _ | refine blk_drew ?_ | refine blk_alloc ?_ _)); refine blk_far ?_ NB241_252.out _; (with_reducible repeat (first | refine blk_drewN ?_ _ | refine blk_drew ?_ | refine blk_alloc ?_ _)); refine blk_far ?_ NB241_252.out _; (with_reducible repeat (first | refine blk_drewN ?_ _ | refine blk_drew ?_ | refine blk_alloc ?_ _)); refine blk_far ?_ NB241_252.out _; (with_reducible repeat (first | refine blk_drewN ?_ _ | refine blk_drew ?_ | refine blk_alloc ?_ _)); refine blk_far ?_ NB241_252.out _; (with_reducible repeat (first | refine blk_drewN ?_ _ | refine blk_drew ?_ | refine blk_alloc ?_ _)); refine blk_far ?_ NB241_252.out _; (with_reducible repeat (first | refine blk_drewN ?_ _ | refine blk_drew ?_ | refine blk_alloc ?_ _)); refine blk_far ?_ NB241_252.out _; (with_reducible repeat (first | refine blk_drewN ?_ _ | refine blk_drew ?_ | refine blk_alloc ?_ _)); refine blk_far ?_ NB241_252.out _; (with_reducible repeat (first | refine blk_drewN ?_ _ | refine blk_drew ?_ | refine blk_alloc ?_ _)); refine blk_far ?_ NB241_252.out _; (with_reducible repeat (first | refine blk_drewN ?_ _ | refine blk_drew ?_ | refine blk_alloc ?_ _)); refine blk_far ?_ NB241_252.out _; (with_reducible repeat (first | refine blk_drewN ?_ _ | refine blk_drew ?_ | refine blk_alloc ?_ _)); exact BK241.out)) (g := gb252) (o := .cells #[.int .i64 t242, .int .i64 t243, .int .i64 t244, .int .i64 t245, .int .i64 t246, .int .i64 t247, .int .i64 t248, .int .i64 t249, .int .i64 t250] 23 (0, 0)) (by (with_reducible repeat (first | refine blk_drewN ?_ _ | refine blk_drew ?_ | refine blk_alloc ?_ _)); refine blk_put (cs := #[.int .i64 t242, .int .i64 t243, .int .i64 t244, .int .i64 t245, .int .i64 t246, .int .i64 t247, .int .i64 t248, .int .i64 t249, .int .i64 0]) ?_ 8 _ rfl; (with_reducible repeat (first | refine blk_drewN ?_ _ | refine blk_drew ?_ | refine blk_alloc ?_ _)); refine blk_put (cs := #[.int .i64 t242, .int .i64 t243, .int .i64 t244, .int .i64 t245, .int .i64 t246, .int .i64 t247, .int .i64 t248, .int .i64 0, .int .i64 0]) ?_ 7 _ rfl; (with_reducible repeat (first | refine blk_drewN ?_ _ | refine blk_drew ?_ | refine blk_alloc ?_ _)); refine blk_put (cs := #[.int .i64 t242, .int .i64 t243, .int .i64 t244, .int .i64 t245, .int .i64 t246, .int .i64 t247, .int .i64 0, .int .i64 0, .int .i64 0]) ?_ 6 _ rfl; (with_reducible repeat (first | refine blk_drewN ?_ _ | refine blk_drew ?_ | refine blk_alloc ?_ _)); refine blk_put (cs := #[.int .i64 t242, .int .i64 t243, .int .i64 t244, .int .i64 t245, .int .i64 t246, .int .i64 0, .int .i64 0, .int .i64 0, .int .i64 0]) ?_ 5 _ rfl; (with_reducible repeat (first | refine blk_drewN ?_ _ | refine blk_drew ?_ | refine blk_alloc ?_ _)); refine blk_put (cs := #[.int .i64 t242, .int .i64 t243, .int .i64 t244, .int .i64 t245, .int .i64 0, .int .i64 0, .int .i64 0, .int .i64 0, .int .i64 0]) ?_ 4 _ rfl; (with_reducible repeat (first | refine blk_drewN ?_ _ | refine blk_drew ?_ | refine blk_alloc ?_ _)); refine blk_put (cs := #[.int .i64 t242, .int .i64 t243, .int .i64 t244, .int .i64 0, .int .i64 0, .int .i64 0, .int .i64 0, .int .i64 0, .int .i64 0]) ?_ 3 _ rfl; (with_reducible repeat (first | refine blk_drewN ?_ _ | refine blk_drew ?_ | refine blk_alloc ?_ _)); refine blk_put (cs := #[.int .i64 t242, .int .i64 t243, .int .i64 0, .int .i64 0, .int .i64 0, .int .i64 0, .int .i64 0, .int .i64 0, .int .i64 0]) ?_ 2 _ rfl; (with_reducible repeat (first | refine blk_drewN ?_ _ | refine blk_drew ?_ | refine blk_alloc ?_ _)); refine blk_put (cs := #[.int .i64 t242, .int .i64 0, .int .i64 0, .int .i64 0, .int .i64 0, .int .i64 0, .int .i64 0, .int .i64 0, .int .i64 0]) ?_ 1 _ rfl; (with_reducible repeat (first | refine blk_drewN ?_ _ | refine blk_drew ?_ | refine blk_alloc ?_ _)); refine blk_put (cs := #[.int .i64 0, .int .i64 0, .int .i64 0, .int .i64 0, .int .i64 0, .int .i64 0, .int .i64 0, .int .i64 0, .int .i64 0]) ?_ 0 _ rfl; (with_reducible repeat (first | refine blk_drewN ?_ _ | refine blk_drew ?_ | refine blk_alloc ?_ _)); exact BK252.out)) (below_size (by repeat (first | (with_reducible first | exact HB.out | apply below_alloc | apply pw_below_drewN | apply below_drew1 | refine below_set ?_ GE225.out | refine below_set ?_ GE241.out | refine below_set ?_ GE252.out) | exact HB.out)))); have n1_ := Aside0.mk (blk_below (g := gb225) (o := .cells #[.int .i64 a0_0, .int .i64 a0_1, .int .i64 a0_2, .int .i64 a0_3, .int .i64 a0_4, .int .i64 a0_5, .int .i64 a0_6, .int .i64 a0_7, .int .i64 a0_8] 23 (0, 0)) (by (with_reducible repeat (first | refine blk_drewN ?_ _ | refine blk_drew ?_ | refine blk_alloc ?_ _)); refine blk_far ?_ NB225_252.out _; (with_reducible repeat (first | refine blk_drewN ?_ _ | refine blk_drew ?_ | refine blk_alloc ?_ _)); refine blk_far ?_ NB225_252.out _; (with_reducible repeat (first | refine blk_drewN ?_ _ | refine blk_drew ?_ | refine blk_alloc ?_ _)); refine blk_far ?_ NB225_252.out _; (with_reducible repeat (first | refine blk_drewN ?_ _ | refine blk_drew ?_ | refine blk_alloc ?_ _)); refine blk_far ?_ NB225_252.out _; (with_reducible repeat (first | refine blk_drewN ?_ _ | refine blk_drew ?_ | refine blk_alloc ?_ _)); refine blk_far ?_ NB225_252.out _; (with_reducible repeat (first | refine blk_drewN ?_ _ | refine blk_drew ?_ | refine blk_alloc ?_ _)); refine blk_far ?_ NB225_252.out _; (with_reducible repeat (first | refine blk_drewN ?_ _ | refine blk_drew ?_ | refine blk_alloc ?_ _)); refine blk_far ?_ NB225_252.out _; (with_reducible repeat (first | refine blk_drewN ?_ _ | refine blk_drew ?_ | refine blk_alloc ?_ _)); refine blk_far ?_ NB225_252.out _; (with_reducible repeat (first | refine blk_drewN ?_ _ | refine blk_drew ?_ | refine blk_alloc ?_ _)); refine blk_far ?_ NB225_252.out _; (with_reducible repeat (first | refine blk_drewN ?_ _ | refine blk_drew ?_ | refine blk_alloc ?_ _)); exact BK225.out) hb); have n2_ := Aside0.mk (blk_below (g := gb241) (o := .cells #[.int .i64 t231, .int .i64 t232, .int .i64 t233, .int .i64 t234, .int .i64 t235, .int .i64 t236, .int .i64 t237, .int .i64 t238, .int .i64 t239] 23 (0, 0)) (by (with_reducible repeat (first | refine blk_drewN ?_ _ | refine blk_drew ?_ | refine blk_alloc ?_ _)); refine blk_far ?_ NB241_252.out _; (with_reducible repeat (first | refine blk_drewN ?_ _ | refine blk_drew ?_ | refine blk_alloc ?_ _)); refine blk_far ?_ NB241_252.out _; (with_reducible repeat (first | refine blk_drewN ?_ _ | refine blk_drew ?_ | refine blk_alloc ?_ _)); refine blk_far ?_ NB241_252.out _; (with_reducible repeat (first | refine blk_drewN ?_ _ | refine blk_drew ?_ | refine blk_alloc ?_ _)); refine blk_far ?_ NB241_252.out _; (with_reducible repeat (first | refine blk_drewN ?_ _ | refine blk_drew ?_ | refine blk_alloc ?_ _)); refine blk_far ?_ NB241_252.out _; (with_reducible repeat (first | refine blk_drewN ?_ _ | refine blk_drew ?_ | refine blk_alloc ?_ _)); refine blk_far ?_ NB241_252.out _; (with_reducible repeat (first | refine blk_drewN ?_ _ | refine blk_drew ?_ | refine blk_alloc ?_ _)); refine blk_far ?_ NB241_252.out _; (with_reducible repeat (first | refine blk_drewN ?_ _ | refine blk_drew ?_ | refine blk_alloc ?_ _)); refine blk_far ?_ NB241_252.out _; (with_reducible repeat (first | refine blk_drewN ?_ _ | refine blk_drew ?_ | refine blk_alloc ?_ _)); refine blk_far ?_ NB241_252.out _; (with_reducible repeat (first | refine blk_drewN ?_ _ | refine blk_drew ?_ | refine blk_alloc ?_ _)); exact BK241.out) hb); have n3_ := Aside0.mk (blk_below (g := gb252) (o := .cells #[.int .i64 t242, .int .i64 t243, .int .i64 t244, .int .i64 t245, .int .i64 t246, .int .i64 t247, .int .i64 t248, .int .i64 t249, .int .i64 t250] 23 (0, 0)) (by (with_reducible repeat (first | refine blk_drewN ?_ _ | refine blk_drew ?_ | refine blk_alloc ?_ _)); refine blk_put (cs := #[.int .i64 t242, .int .i64 t243, .int .i64 t244, .int .i64 t245, .int .i64 t246, .int .i64 t247, .int .i64 t248, .int .i64 t249, .int .i64 0]) ?_ 8 _ rfl; (with_reducible repeat (first | refine blk_drewN ?_ _ | refine blk_drew ?_ | refine blk_alloc ?_ _)); refine blk_put (cs := #[.int .i64 t242, .int .i64 t243, .int .i64 t244, .int .i64 t245, .int .i64 t246, .int .i64 t247, .int .i64 t248, .int .i64 0, .int .i64 0]) ?_ 7 _ rfl; (with_reducible repeat (first | refine blk_drewN ?_ _ | refine blk_drew ?_ | refine blk_alloc ?_ _)); refine blk_put (cs := #[.int .i64 t242, .int .i64 t243, .int .i64 t244, .int .i64 t245, .int .i64 t246, .int .i64 t247, .int .i64 0, .int .i64 0, .int .i64 0]) ?_ 6 _ rfl; (with_reducible repeat (first | refine blk_drewN ?_ _ | refine blk_drew ?_ | refine blk_alloc ?_ _)); refine blk_put (cs := #[.int .i64 t242, .int .i64 t243, .int .i64 t244, .int .i64 t245, .int .i64 t246, .int .i64 0, .int .i64 0, .int .i64 0, .int .i64 0]) ?_ 5 _ rfl; (with_reducible repeat (first | refine blk_drewN ?_ _ | refine blk_drew ?_ | refine blk_alloc ?_ _)); refine blk_put (cs := #[.int .i64 t242, .int .i64 t243, .int .i64 t244, .int .i64 t245, .int .i64 0, .int .i64 0, .int .i64 0, .int .i64 0, .int .i64 0]) ?_ 4 _ rfl; (with_reducible repeat (first | refine blk_drewN ?_ _ | refine blk_drew ?_ | refine blk_alloc ?_ _)); refine blk_put (cs := #[.int .i64 t242, .int .i64 t243, .int .i64 t244, .int .i64 0, .int .i64 0, .int .i64 0, .int .i64 0, .int .i64 0, .int .i64 0]) ?_ 3 _ rfl; (with_reducible repeat (first | refine blk_drewN ?_ _ | refine blk_drew ?_ | refine blk_alloc ?_ _)); refine blk_put (cs := #[.int .i64 t242, .int .i64 t243, .int .i64 0, .int .i64 0, .int .i64 0, .int .i64 0, .int .i64 0, .int .i64 0, .int .i64 0]) ?_ 2 _ rfl; (with_reducible repeat (first | refine blk_drewN ?_ _ | refine blk_drew ?_ | refine blk_alloc ?_ _)); refine blk_put (cs := #[.int .i64 t242, .int .i64 0, .int .i64 0, .int .i64 0, .int .i64 0, .int .i64 0, .int .i64 0, .int .i64 0, .int .i64 0]) ?_ 1 _ rfl; (with_reducible repeat (first | refine blk_drewN ?_ _ | refine blk_drew ?_ | refine blk_alloc ?_ _)); refine blk_put (cs := #[.int .i64 0, .int .i64 0, .int .i64 0, .int .i64 0, .int .i64 0, .int .i64 0, .int .i64 0, .int .i64 0, .int .i64 0]) ?_ 0 _ rfl; (with_reducible repeat (first | refine blk_drewN ?_ _ | refine blk_drew ?_ | refine blk_alloc ?_ _)); exact BK252.out) hb); have n4_ := Aside0.mk (below_step (by repeat (first | (with_reducible first | exact HB.out | apply below_alloc | apply pw_below_drewN | apply below_drew1 | refine below_set ?_ GE225.out | refine below_set ?_ GE241.out | refine below_set ?_ GE252.out) | exact HB.out)) hb); clear BK225; clear BK241; clear BK252; clear HB; have HO256 := n0_; have BK225 := n1_; have BK241 := n2_; have BK252 := n3_; have HB := n4_; clear n0_ n1_ n2_ n3_ n4_; (try clear hb); (try clear hb2); (try clear hk); (try clear hi); (try clear ho0)) | ((with_reducible refine gate_callee (f := 11) rfl ?_); refine goesL_ (some 48) rfl rfl Try.func11 (by kernel_rfl) rfl #[.string a1] rfl (by (try simp only [List.map_toArray, List.map_cons, List.map_nil]); first | done | rfl | (simp only [List.length_drop, List.length_take]; rfl)) ?_; (with_reducible refine (ref23_All.calls k a1 t257 t258 _ A12.out).mono ?_); rintro e w39 ⟨v259, rfl, ho0, hb⟩; refine ⟨_, rfl, ?_⟩; have n0_ := Aside0.mk (Kd.R_elder' (by (with_reducible repeat (first | apply Kd.R_alloc | apply Kd.R_drewN | apply Kd.R_drew)); exact HO256.out) (Kd.R_base ho0) hb); have n1_ := Aside0.mk (Kd.R_lower (Kd.R_newB (Kd.R_newB (Kd.R_newB (Kd.R_new' ho0 (Kd.R_lt (by (with_reducible repeat (first | apply Kd.R_alloc | apply Kd.R_drewN | apply Kd.R_drew)); exact HO256.out))) (g := gb225) (o := .cells #[.int .i64 a0_0, .int .i64 a0_1, .int .i64 a0_2, .int .i64 a0_3, .int .i64 a0_4, .int .i64 a0_5, .int .i64 a0_6, .int .i64 a0_7, .int .i64 a0_8] 23 (0, 0)) (by (with_reducible repeat (first | refine blk_drewN ?_ _ | refine blk_drew ?_ | refine blk_alloc ?_ _)); exact BK225.out)) (g := gb241) (o := .cells #[.int .i64 t231, .int .i64 t232, .int .i64 t233, .int .i64 t234, .int .i64 t235, .int .i64 t236, .int .i64 t237, .int .i64 t238, .int .i64 t239] 23 (0, 0)) (by (with_reducible repeat (first | refine blk_drewN ?_ _ | refine blk_drew ?_ | refine blk_alloc ?_ _)); exact BK241.out)) (g := gb252) (o := .cells #[.int .i64 t242, .int .i64 t243, .int .i64 t244, .int .i64 t245, .int .i64 t246, .int .i64 t247, .int .i64 t248, .int .i64 t249, .int .i64 t250] 23 (0, 0)) (by (with_reducible repeat (first | refine blk_drewN ?_ _ | refine blk_drew ?_ | refine blk_alloc ?_ _)); exact BK252.out)) (below_size (by repeat (first | (with_reducible first | exact HB.out | apply below_alloc | apply pw_below_drewN | apply below_drew1 | refine below_set ?_ GE225.out | refine below_set ?_ GE241.out | refine below_set ?_ GE252.out) | exact HB.out)))); have n2_ := Aside0.mk (blk_below (g := gb225) (o := .cells #[.int .i64 a0_0, .int .i64 a0_1, .int .i64 a0_2, .int .i64 a0_3, .int .i64 a0_4, .int .i64 a0_5, .int .i64 a0_6, .int .i64 a0_7, .int .i64 a0_8] 23 (0, 0)) (by (with_reducible repeat (first | refine blk_drewN ?_ _ | refine blk_drew ?_ | refine blk_alloc ?_ _)); exact BK225.out) hb); have n3_ := Aside0.mk (blk_below (g := gb241) (o := .cells #[.int .i64 t231, .int .i64 t232, .int .i64 t233, .int .i64 t234, .int .i64 t235, .int .i64 t236, .int .i64 t237, .int .i64 t238, .int .i64 t239] 23 (0, 0)) (by (with_reducible repeat (first | refine blk_drewN ?_ _ | refine blk_drew ?_ | refine blk_alloc ?_ _)); exact BK241.out) hb); have n4_ := Aside0.mk (blk_below (g := gb252) (o := .cells #[.int .i64 t242, .int .i64 t243, .int .i64 t244, .int .i64 t245, .int .i64 t246, .int .i64 t247, .int .i64 t248, .int .i64 t249, .int .i64 t250] 23 (0, 0)) (by (with_reducible repeat (first | refine blk_drewN ?_ _ | refine blk_drew ?_ | refine blk_alloc ?_ _)); exact BK252.out) hb); have n5_ := Aside0.mk (below_step (by repeat (first | (with_reducible first | exact HB.out | apply below_alloc | apply pw_below_drewN | apply below_drew1 | refine below_set ?_ GE225.out | refine below_set ?_ GE241.out | refine below_set ?_ GE252.out) | exact HB.out)) hb); clear HO256; clear BK225; clear BK241; clear BK252; clear HB; have HO256 := n0_; have HO260 := n1_; have BK225 := n2_; have BK241 := n3_; have BK252 := n4_; have HB := n5_; clear n0_ n1_ n2_ n3_ n4_ n5_; (try clear hb); (try clear hb2); (try clear hk); (try clear hi); (try clear ho0)))
        have n0_ := Aside0.mk (Kd.R_drew HO256.out)
        have n1_ := Aside0.mk (Kd.R_drew HO260.out)
        have n2_ := Aside0.mk (blk_drew BK225.out)
        have n3_ := Aside0.mk (blk_drew BK241.out)
        have n4_ := Aside0.mk (blk_drew BK252.out)
        have n5_ := Aside0.mk (below_drew1 HB.out)
        clear HO256
        clear HO260
        clear BK225
        clear BK241
        clear BK252
        clear HB
        have HO256 := n0_
        have HO260 := n1_
        have BK225 := n2_
        have BK241 := n3_
        have BK252 := n4_
        have HB := n5_
        clear n0_ n1_ n2_ n3_ n4_ n5_
        refine start_ (n := 39) (S := fun w' => w'.cell? ⟨gb225, 0, none⟩ = some (.int .i64 a0_0) ∧ w'.cell? ⟨gb225, 1, none⟩ = some (.int .i64 a0_1) ∧ w'.cell? ⟨gb225, 2, none⟩ = some (.int .i64 a0_2) ∧ w'.cell? ⟨gb225, 3, none⟩ = some (.int .i64 a0_3) ∧ w'.cell? ⟨gb225, 4, none⟩ = some (.int .i64 a0_4) ∧ w'.cell? ⟨gb225, 5, none⟩ = some (.int .i64 a0_5) ∧ w'.cell? ⟨gb225, 6, none⟩ = some (.int .i64 a0_6) ∧ w'.cell? ⟨gb225, 7, none⟩ = some (.int .i64 a0_7) ∧ w'.cell? ⟨gb225, 8, none⟩ = some (.int .i64 a0_8) ∧ w'.cell? ⟨gb241, 0, none⟩ = some (.int .i64 t231) ∧ w'.cell? ⟨gb241, 1, none⟩ = some (.int .i64 t232) ∧ w'.cell? ⟨gb241, 2, none⟩ = some (.int .i64 t233) ∧ w'.cell? ⟨gb241, 3, none⟩ = some (.int .i64 t234) ∧ w'.cell? ⟨gb241, 4, none⟩ = some (.int .i64 t235) ∧ w'.cell? ⟨gb241, 5, none⟩ = some (.int .i64 t236) ∧ w'.cell? ⟨gb241, 6, none⟩ = some (.int .i64 t237) ∧ w'.cell? ⟨gb241, 7, none⟩ = some (.int .i64 t238) ∧ w'.cell? ⟨gb241, 8, none⟩ = some (.int .i64 t239) ∧ w'.cell? ⟨gb252, 0, none⟩ = some (.int .i64 t242) ∧ w'.cell? ⟨gb252, 1, none⟩ = some (.int .i64 t243) ∧ w'.cell? ⟨gb252, 2, none⟩ = some (.int .i64 t244) ∧ w'.cell? ⟨gb252, 3, none⟩ = some (.int .i64 t245) ∧ w'.cell? ⟨gb252, 4, none⟩ = some (.int .i64 t246) ∧ w'.cell? ⟨gb252, 5, none⟩ = some (.int .i64 t247) ∧ w'.cell? ⟨gb252, 6, none⟩ = some (.int .i64 t248) ∧ w'.cell? ⟨gb252, 7, none⟩ = some (.int .i64 t249) ∧ w'.cell? ⟨gb252, 8, none⟩ = some (.int .i64 t250)) (ds := []) #[false, false, false, false, false, false, false, false, false, false, false, false, false, false, false, false, false, false, false, false, false, false, false, false, false, false, false, false, false, false, false, false, false, false, false, false, false, false, false] (by kernel_rfl) rfl rfl ⟨(blk_cell BK225.out 0).trans rfl, (blk_cell BK225.out 1).trans rfl, (blk_cell BK225.out 2).trans rfl, (blk_cell BK225.out 3).trans rfl, (blk_cell BK225.out 4).trans rfl, (blk_cell BK225.out 5).trans rfl, (blk_cell BK225.out 6).trans rfl, (blk_cell BK225.out 7).trans rfl, (blk_cell BK225.out 8).trans rfl, (blk_cell BK241.out 0).trans rfl, (blk_cell BK241.out 1).trans rfl, (blk_cell BK241.out 2).trans rfl, (blk_cell BK241.out 3).trans rfl, (blk_cell BK241.out 4).trans rfl, (blk_cell BK241.out 5).trans rfl, (blk_cell BK241.out 6).trans rfl, (blk_cell BK241.out 7).trans rfl, (blk_cell BK241.out 8).trans rfl, (blk_cell BK252.out 0).trans rfl, (blk_cell BK252.out 1).trans rfl, (blk_cell BK252.out 2).trans rfl, (blk_cell BK252.out 3).trans rfl, (blk_cell BK252.out 4).trans rfl, (blk_cell BK252.out 5).trans rfl, (blk_cell BK252.out 6).trans rfl, (blk_cell BK252.out 7).trans rfl, (blk_cell BK252.out 8).trans rfl⟩ (fun hHeld => ?_); refine with_tabW law23_AuditTells.tab9 law23_AuditTells.bits9 (fun HT_ HW_ => ?_)
        generalize w39.drew = w40 at HO256 HO260 BK225 BK241 BK252 HB hHeld ⊢
        refine one_ (i := 0) (N := some 51) #[true, false, false, false, false, false, false, false, false, false, false, false, false, false, false, false, false, false, false, false, false, false, false, false, false, false, false, false, false, false, false, false, false, false, false, false, false, false, false] rfl rfl (one_of HT_.out (by kernel_rfl)) (by decide) (fun K hK => ?_)
        refine goes_ Try.func5 (by kernel_rfl) rfl #[] (by rfl) rfl rfl (by (try simp only [List.map_toArray, List.map_cons, List.map_nil]); first | done | rfl | (simp only [List.length_drop, List.length_take]; rfl)) ?_
        with_reducible refine (law23_awake.calls k  true _ A13.out).mono ?_
        rintro e w41 ⟨rfl, hb⟩
        refine ⟨_, rfl, ?_⟩
        have n0_ := Aside0.mk (Kd.R_below (by (with_reducible repeat (first | apply Kd.R_alloc | apply Kd.R_drewN | apply Kd.R_drew)); exact HO256.out) hb)
        have n1_ := Aside0.mk (Kd.R_below (by (with_reducible repeat (first | apply Kd.R_alloc | apply Kd.R_drewN | apply Kd.R_drew)); exact HO260.out) hb)
        have n2_ := Aside0.mk (blk_below (g := gb225) (o := .cells #[.int .i64 a0_0, .int .i64 a0_1, .int .i64 a0_2, .int .i64 a0_3, .int .i64 a0_4, .int .i64 a0_5, .int .i64 a0_6, .int .i64 a0_7, .int .i64 a0_8] 23 (0, 0)) (by (with_reducible repeat (first | refine blk_drewN ?_ _ | refine blk_drew ?_ | refine blk_alloc ?_ _)); exact BK225.out) hb)
        have n3_ := Aside0.mk (blk_below (g := gb241) (o := .cells #[.int .i64 t231, .int .i64 t232, .int .i64 t233, .int .i64 t234, .int .i64 t235, .int .i64 t236, .int .i64 t237, .int .i64 t238, .int .i64 t239] 23 (0, 0)) (by (with_reducible repeat (first | refine blk_drewN ?_ _ | refine blk_drew ?_ | refine blk_alloc ?_ _)); exact BK241.out) hb)
        have n4_ := Aside0.mk (blk_below (g := gb252) (o := .cells #[.int .i64 t242, .int .i64 t243, .int .i64 t244, .int .i64 t245, .int .i64 t246, .int .i64 t247, .int .i64 t248, .int .i64 t249, .int .i64 t250] 23 (0, 0)) (by (with_reducible repeat (first | refine blk_drewN ?_ _ | refine blk_drew ?_ | refine blk_alloc ?_ _)); exact BK252.out) hb)
        have n5_ := Aside0.mk (below_step (by repeat (first | (with_reducible first | exact HB.out | apply below_alloc | apply pw_below_drewN | apply below_drew1 | refine below_set ?_ GE225.out | refine below_set ?_ GE241.out | refine below_set ?_ GE252.out) | exact HB.out)) hb)
        clear HO256
        clear HO260
        clear BK225
        clear BK241
        clear BK252
        clear HB
        have HO256 := n0_
        have HO260 := n1_
        have BK225 := n2_
        have BK241 := n3_
        have BK252 := n4_
        have HB := n5_
        clear n0_ n1_ n2_ n3_ n4_ n5_
        (try clear hb)
        (try clear hb2)
        (try clear hk)
        (try clear hi)
        refine hK.out _ _ ⟨(blk_cell BK225.out 0).trans rfl, (blk_cell BK225.out 1).trans rfl, (blk_cell BK225.out 2).trans rfl, (blk_cell BK225.out 3).trans rfl, (blk_cell BK225.out 4).trans rfl, (blk_cell BK225.out 5).trans rfl, (blk_cell BK225.out 6).trans rfl, (blk_cell BK225.out 7).trans rfl, (blk_cell BK225.out 8).trans rfl, (blk_cell BK241.out 0).trans rfl, (blk_cell BK241.out 1).trans rfl, (blk_cell BK241.out 2).trans rfl, (blk_cell BK241.out 3).trans rfl, (blk_cell BK241.out 4).trans rfl, (blk_cell BK241.out 5).trans rfl, (blk_cell BK241.out 6).trans rfl, (blk_cell BK241.out 7).trans rfl, (blk_cell BK241.out 8).trans rfl, (blk_cell BK252.out 0).trans rfl, (blk_cell BK252.out 1).trans rfl, (blk_cell BK252.out 2).trans rfl, (blk_cell BK252.out 3).trans rfl, (blk_cell BK252.out 4).trans rfl, (blk_cell BK252.out 5).trans rfl, (blk_cell BK252.out 6).trans rfl, (blk_cell BK252.out 7).trans rfl, (blk_cell BK252.out 8).trans rfl⟩ (fun hHeld => ?_)
        clear hK K
        refine norm_ (a' := ?_) ?_ ?_
        rotate_left
        ·show Act.put _ (some 51) _ = _
         simp only [Act.put, List.setIfInBounds_toArray, List.set_cons_zero, List.set_cons_succ, i64_w, i32_w]
         rfl
        refine pure_ (i := 1) (N := some 52) (v := ?_) (a' := ?_) #[true, true, false, false, false, false, false, false, false, false, false, false, false, false, false, false, false, false, false, false, false, false, false, false, false, false, false, false, false, false, false, false, false, false, false, false, false, false, false] rfl rfl (any_of HT_.out (by kernel_rfl)) (fun _ _ _ h => h) (Or.inl ⟨by rfl, ?_⟩) ?_ ?_
        rotate_left
        ·intro w'
         go_simp
         with_reducible rfl
        rotate_left
        ·simp only [Act.put, List.setIfInBounds_toArray, List.set_cons_zero, List.set_cons_succ, i64_w, i32_w]
         rfl
        refine take_ (i := 2) (N := some 53) (v := ?_) (a' := ?_) #[true, true, true, false, false, false, false, false, false, false, false, false, false, false, false, false, false, false, false, false, false, false, false, false, false, false, false, false, false, false, false, false, false, false, false, false, false, false, false] rfl rfl (take_ofW HT_.out HW_.out (by kernel_rfl)) (fun _ _ _ h => h) (Or.inl ⟨by rfl, ?_⟩) hHeld ?_ ?_
        rotate_left
        ·rintro w' ⟨s0, s1, s2, s3, s4, s5, s6, s7, s8, s9, s10, s11, s12, s13, s14, s15, s16, s17, s18, s19, s20, s21, s22, s23, s24, s25, s26⟩
         go_simp
         with_reducible rfl
        rotate_left
        ·simp only [Act.put, List.setIfInBounds_toArray, List.set_cons_zero, List.set_cons_succ, i64_w, i32_w]
         rfl
        refine take_ (i := 4) (N := some 55) (v := ?_) (a' := ?_) #[true, true, true, false, true, false, false, false, false, false, false, false, false, false, false, false, false, false, false, false, false, false, false, false, false, false, false, false, false, false, false, false, false, false, false, false, false, false, false] rfl rfl (take_ofW HT_.out HW_.out (by kernel_rfl)) (fun _ _ _ h => h) (Or.inl ⟨by rfl, ?_⟩) hHeld ?_ ?_
        rotate_left
        ·rintro w' ⟨s0, s1, s2, s3, s4, s5, s6, s7, s8, s9, s10, s11, s12, s13, s14, s15, s16, s17, s18, s19, s20, s21, s22, s23, s24, s25, s26⟩
         go_simp
         with_reducible rfl
        rotate_left
        ·simp only [Act.put, List.setIfInBounds_toArray, List.set_cons_zero, List.set_cons_succ, i64_w, i32_w]
         rfl
        refine one_ (i := 3) (N := some 54) #[true, true, true, true, true, false, false, false, false, false, false, false, false, false, false, false, false, false, false, false, false, false, false, false, false, false, false, false, false, false, false, false, false, false, false, false, false, false, false] rfl rfl (one_of HT_.out (by kernel_rfl)) (by decide) (fun K hK => ?_)
        refine goes_ Try.func12 (by kernel_rfl) rfl #[.agg #[.int .i64 a0_0, .int .i64 a0_1, .int .i64 a0_2, .int .i64 a0_3, .int .i64 a0_4, .int .i64 a0_5, .int .i64 a0_6, .int .i64 a0_7, .int .i64 a0_8]] (by rfl) rfl rfl (by (try simp only [List.map_toArray, List.map_cons, List.map_nil]); first | done | rfl | (simp only [List.length_drop, List.length_take]; rfl)) ?_
        with_reducible refine (audit_Right.calls k a0_0 a0_1 a0_2 a0_3 a0_4 a0_5 a0_6 a0_7 a0_8 t262 _ A15.out).mono ?_
        rintro e w42 ⟨rfl, hb⟩
        refine ⟨_, rfl, ?_⟩
        have n0_ := Aside0.mk (Kd.R_below (by (with_reducible repeat (first | apply Kd.R_alloc | apply Kd.R_drewN | apply Kd.R_drew)); exact HO256.out) hb)
        have n1_ := Aside0.mk (Kd.R_below (by (with_reducible repeat (first | apply Kd.R_alloc | apply Kd.R_drewN | apply Kd.R_drew)); exact HO260.out) hb)
        have n2_ := Aside0.mk (blk_below (g := gb225) (o := .cells #[.int .i64 a0_0, .int .i64 a0_1, .int .i64 a0_2, .int .i64 a0_3, .int .i64 a0_4, .int .i64 a0_5, .int .i64 a0_6, .int .i64 a0_7, .int .i64 a0_8] 23 (0, 0)) (by (with_reducible repeat (first | refine blk_drewN ?_ _ | refine blk_drew ?_ | refine blk_alloc ?_ _)); exact BK225.out) hb)
        have n3_ := Aside0.mk (blk_below (g := gb241) (o := .cells #[.int .i64 t231, .int .i64 t232, .int .i64 t233, .int .i64 t234, .int .i64 t235, .int .i64 t236, .int .i64 t237, .int .i64 t238, .int .i64 t239] 23 (0, 0)) (by (with_reducible repeat (first | refine blk_drewN ?_ _ | refine blk_drew ?_ | refine blk_alloc ?_ _)); exact BK241.out) hb)
        have n4_ := Aside0.mk (blk_below (g := gb252) (o := .cells #[.int .i64 t242, .int .i64 t243, .int .i64 t244, .int .i64 t245, .int .i64 t246, .int .i64 t247, .int .i64 t248, .int .i64 t249, .int .i64 t250] 23 (0, 0)) (by (with_reducible repeat (first | refine blk_drewN ?_ _ | refine blk_drew ?_ | refine blk_alloc ?_ _)); exact BK252.out) hb)
        have n5_ := Aside0.mk (below_step (by repeat (first | (with_reducible first | exact HB.out | apply below_alloc | apply pw_below_drewN | apply below_drew1 | refine below_set ?_ GE225.out | refine below_set ?_ GE241.out | refine below_set ?_ GE252.out) | exact HB.out)) hb)
        clear HO256
        clear HO260
        clear BK225
        clear BK241
        clear BK252
        clear HB
        have HO256 := n0_
        have HO260 := n1_
        have BK225 := n2_
        have BK241 := n3_
        have BK252 := n4_
        have HB := n5_
        clear n0_ n1_ n2_ n3_ n4_ n5_
        (try clear hb)
        (try clear hb2)
        (try clear hk)
        (try clear hi)
        refine hK.out _ _ ⟨(blk_cell BK225.out 0).trans rfl, (blk_cell BK225.out 1).trans rfl, (blk_cell BK225.out 2).trans rfl, (blk_cell BK225.out 3).trans rfl, (blk_cell BK225.out 4).trans rfl, (blk_cell BK225.out 5).trans rfl, (blk_cell BK225.out 6).trans rfl, (blk_cell BK225.out 7).trans rfl, (blk_cell BK225.out 8).trans rfl, (blk_cell BK241.out 0).trans rfl, (blk_cell BK241.out 1).trans rfl, (blk_cell BK241.out 2).trans rfl, (blk_cell BK241.out 3).trans rfl, (blk_cell BK241.out 4).trans rfl, (blk_cell BK241.out 5).trans rfl, (blk_cell BK241.out 6).trans rfl, (blk_cell BK241.out 7).trans rfl, (blk_cell BK241.out 8).trans rfl, (blk_cell BK252.out 0).trans rfl, (blk_cell BK252.out 1).trans rfl, (blk_cell BK252.out 2).trans rfl, (blk_cell BK252.out 3).trans rfl, (blk_cell BK252.out 4).trans rfl, (blk_cell BK252.out 5).trans rfl, (blk_cell BK252.out 6).trans rfl, (blk_cell BK252.out 7).trans rfl, (blk_cell BK252.out 8).trans rfl⟩ (fun hHeld => ?_)
        clear hK K
        refine norm_ (a' := ?_) ?_ ?_
        rotate_left
        ·show Act.put _ (some 54) _ = _
         simp only [Act.put, List.setIfInBounds_toArray, List.set_cons_zero, List.set_cons_succ, i64_w, i32_w]
         rfl
        refine one_ (i := 5) (N := some 56) #[true, true, true, true, true, true, false, false, false, false, false, false, false, false, false, false, false, false, false, false, false, false, false, false, false, false, false, false, false, false, false, false, false, false, false, false, false, false, false] rfl rfl (one_of HT_.out (by kernel_rfl)) (by decide) (fun K hK => ?_)
        refine goes_ Try.func13 (by kernel_rfl) rfl #[.agg #[.int .i64 a0_0, .int .i64 a0_1, .int .i64 a0_2, .int .i64 a0_3, .int .i64 a0_4, .int .i64 a0_5, .int .i64 a0_6, .int .i64 a0_7, .int .i64 a0_8]] (by rfl) rfl rfl (by (try simp only [List.map_toArray, List.map_cons, List.map_nil]); first | done | rfl | (simp only [List.length_drop, List.length_take]; rfl)) ?_
        with_reducible refine (ref23_Right.calls a0_0 a0_1 a0_2 a0_3 a0_4 a0_5 a0_6 a0_7 a0_8 t263 _ A16.out).mono ?_
        rintro e w43 ⟨rfl, hb⟩
        refine ⟨_, rfl, ?_⟩
        have n0_ := Aside0.mk (Kd.R_below (by (with_reducible repeat (first | apply Kd.R_alloc | apply Kd.R_drewN | apply Kd.R_drew)); exact HO256.out) hb)
        have n1_ := Aside0.mk (Kd.R_below (by (with_reducible repeat (first | apply Kd.R_alloc | apply Kd.R_drewN | apply Kd.R_drew)); exact HO260.out) hb)
        have n2_ := Aside0.mk (blk_below (g := gb225) (o := .cells #[.int .i64 a0_0, .int .i64 a0_1, .int .i64 a0_2, .int .i64 a0_3, .int .i64 a0_4, .int .i64 a0_5, .int .i64 a0_6, .int .i64 a0_7, .int .i64 a0_8] 23 (0, 0)) (by (with_reducible repeat (first | refine blk_drewN ?_ _ | refine blk_drew ?_ | refine blk_alloc ?_ _)); exact BK225.out) hb)
        have n3_ := Aside0.mk (blk_below (g := gb241) (o := .cells #[.int .i64 t231, .int .i64 t232, .int .i64 t233, .int .i64 t234, .int .i64 t235, .int .i64 t236, .int .i64 t237, .int .i64 t238, .int .i64 t239] 23 (0, 0)) (by (with_reducible repeat (first | refine blk_drewN ?_ _ | refine blk_drew ?_ | refine blk_alloc ?_ _)); exact BK241.out) hb)
        have n4_ := Aside0.mk (blk_below (g := gb252) (o := .cells #[.int .i64 t242, .int .i64 t243, .int .i64 t244, .int .i64 t245, .int .i64 t246, .int .i64 t247, .int .i64 t248, .int .i64 t249, .int .i64 t250] 23 (0, 0)) (by (with_reducible repeat (first | refine blk_drewN ?_ _ | refine blk_drew ?_ | refine blk_alloc ?_ _)); exact BK252.out) hb)
        have n5_ := Aside0.mk (below_step (by repeat (first | (with_reducible first | exact HB.out | apply below_alloc | apply pw_below_drewN | apply below_drew1 | refine below_set ?_ GE225.out | refine below_set ?_ GE241.out | refine below_set ?_ GE252.out) | exact HB.out)) hb)
        clear HO256
        clear HO260
        clear BK225
        clear BK241
        clear BK252
        clear HB
        have HO256 := n0_
        have HO260 := n1_
        have BK225 := n2_
        have BK241 := n3_
        have BK252 := n4_
        have HB := n5_
        clear n0_ n1_ n2_ n3_ n4_ n5_
        (try clear hb)
        (try clear hb2)
        (try clear hk)
        (try clear hi)
        obtain ⟨Ao44, co44, eo44⟩ := Kd.R_slice HO256.out
        (first | subst eo44 | (injection eo44 with f1_ f2_ f3_; have f4_ := f1_.symm; have f5_ := f3_.symm; clear f1_ f2_ f3_; subst f4_; subst f5_))
        obtain ⟨Ao45, co45, eo45⟩ := Kd.R_slice HO260.out
        (first | subst eo45 | (injection eo45 with f1_ f2_ f3_; have f4_ := f1_.symm; have f5_ := f3_.symm; clear f1_ f2_ f3_; subst f4_; subst f5_))
        refine hK.out _ _ ⟨(blk_cell BK225.out 0).trans rfl, (blk_cell BK225.out 1).trans rfl, (blk_cell BK225.out 2).trans rfl, (blk_cell BK225.out 3).trans rfl, (blk_cell BK225.out 4).trans rfl, (blk_cell BK225.out 5).trans rfl, (blk_cell BK225.out 6).trans rfl, (blk_cell BK225.out 7).trans rfl, (blk_cell BK225.out 8).trans rfl, (blk_cell BK241.out 0).trans rfl, (blk_cell BK241.out 1).trans rfl, (blk_cell BK241.out 2).trans rfl, (blk_cell BK241.out 3).trans rfl, (blk_cell BK241.out 4).trans rfl, (blk_cell BK241.out 5).trans rfl, (blk_cell BK241.out 6).trans rfl, (blk_cell BK241.out 7).trans rfl, (blk_cell BK241.out 8).trans rfl, (blk_cell BK252.out 0).trans rfl, (blk_cell BK252.out 1).trans rfl, (blk_cell BK252.out 2).trans rfl, (blk_cell BK252.out 3).trans rfl, (blk_cell BK252.out 4).trans rfl, (blk_cell BK252.out 5).trans rfl, (blk_cell BK252.out 6).trans rfl, (blk_cell BK252.out 7).trans rfl, (blk_cell BK252.out 8).trans rfl⟩ (fun hHeld => ?_)
        clear hK K
        refine norm_ (a' := ?_) ?_ ?_
        rotate_left
        ·show Act.put _ (some 56) _ = _
         simp only [Act.put, List.setIfInBounds_toArray, List.set_cons_zero, List.set_cons_succ, i64_w, i32_w]
         rfl
        refine pure_ (i := 6) (N := some 57) (v := ?_) (a' := ?_) #[true, true, true, true, true, true, true, false, false, false, false, false, false, false, false, false, false, false, false, false, false, false, false, false, false, false, false, false, false, false, false, false, false, false, false, false, false, false, false] rfl rfl (any_of HT_.out (by kernel_rfl)) (fun _ _ _ h => h) (Or.inl ⟨by rfl, ?_⟩) ?_ ?_
        rotate_left
        ·intro w'
         go_simp
         with_reducible rfl
        rotate_left
        ·simp only [Act.put, List.setIfInBounds_toArray, List.set_cons_zero, List.set_cons_succ, i64_w, i32_w]
         rfl
        refine pure_ (i := 7) (N := some 58) (v := ?_) (a' := ?_) #[true, true, true, true, true, true, true, true, false, false, false, false, false, false, false, false, false, false, false, false, false, false, false, false, false, false, false, false, false, false, false, false, false, false, false, false, false, false, false] rfl rfl (any_of HT_.out (by kernel_rfl)) (fun _ _ _ h => h) (Or.inl ⟨by rfl, ?_⟩) ?_ ?_
        rotate_left
        ·intro w'
         go_simp
         with_reducible rfl
        rotate_left
        ·simp only [Act.put, List.setIfInBounds_toArray, List.set_cons_zero, List.set_cons_succ, i64_w, i32_w]
         rfl
        refine pure_ (i := 8) (N := some 59) (v := ?_) (a' := ?_) #[true, true, true, true, true, true, true, true, true, false, false, false, false, false, false, false, false, false, false, false, false, false, false, false, false, false, false, false, false, false, false, false, false, false, false, false, false, false, false] rfl rfl (any_of HT_.out (by kernel_rfl)) (fun _ _ _ h => h) (Or.inl ⟨by rfl, ?_⟩) ?_ ?_
        rotate_left
        ·intro w'
         go_simp
         with_reducible rfl
        rotate_left
        ·simp only [Act.put, List.setIfInBounds_toArray, List.set_cons_zero, List.set_cons_succ, i64_w, i32_w]
         rfl
        refine pure_ (i := 9) (N := some 60) (v := ?_) (a' := ?_) #[true, true, true, true, true, true, true, true, true, true, false, false, false, false, false, false, false, false, false, false, false, false, false, false, false, false, false, false, false, false, false, false, false, false, false, false, false, false, false] rfl rfl (any_of HT_.out (by kernel_rfl)) (fun _ _ _ h => h) (Or.inl ⟨by rfl, ?_⟩) ?_ ?_
        rotate_left
        ·intro w'
         go_simp
         with_reducible rfl
        rotate_left
        ·simp only [Act.put, List.setIfInBounds_toArray, List.set_cons_zero, List.set_cons_succ, i64_w, i32_w]
         rfl
        refine pure_ (i := 10) (N := some 61) (v := ?_) (a' := ?_) #[true, true, true, true, true, true, true, true, true, true, true, false, false, false, false, false, false, false, false, false, false, false, false, false, false, false, false, false, false, false, false, false, false, false, false, false, false, false, false] rfl rfl (any_of HT_.out (by kernel_rfl)) (fun _ _ _ h => h) (Or.inl ⟨by rfl, ?_⟩) ?_ ?_
        rotate_left
        ·intro w'
         go_simp
         with_reducible rfl
        rotate_left
        ·simp only [Act.put, List.setIfInBounds_toArray, List.set_cons_zero, List.set_cons_succ, i64_w, i32_w]
         rfl
        refine pure_ (i := 11) (N := some 62) (v := ?_) (a' := ?_) #[true, true, true, true, true, true, true, true, true, true, true, true, false, false, false, false, false, false, false, false, false, false, false, false, false, false, false, false, false, false, false, false, false, false, false, false, false, false, false] rfl rfl (any_of HT_.out (by kernel_rfl)) (fun _ _ _ h => h) (Or.inl ⟨by rfl, ?_⟩) ?_ ?_
        rotate_left
        ·intro w'
         go_simp
         with_reducible rfl
        rotate_left
        ·simp only [Act.put, List.setIfInBounds_toArray, List.set_cons_zero, List.set_cons_succ, i64_w, i32_w]
         rfl
        refine pure_ (i := 12) (N := some 63) (v := ?_) (a' := ?_) #[true, true, true, true, true, true, true, true, true, true, true, true, true, false, false, false, false, false, false, false, false, false, false, false, false, false, false, false, false, false, false, false, false, false, false, false, false, false, false] rfl rfl (any_of HT_.out (by kernel_rfl)) (fun _ _ _ h => h) (Or.inl ⟨by rfl, ?_⟩) ?_ ?_
        rotate_left
        ·intro w'
         go_simp
         with_reducible rfl
        rotate_left
        ·simp only [Act.put, List.setIfInBounds_toArray, List.set_cons_zero, List.set_cons_succ, i64_w, i32_w]
         rfl
        refine pure_ (i := 13) (N := some 64) (v := ?_) (a' := ?_) #[true, true, true, true, true, true, true, true, true, true, true, true, true, true, false, false, false, false, false, false, false, false, false, false, false, false, false, false, false, false, false, false, false, false, false, false, false, false, false] rfl rfl (any_of HT_.out (by kernel_rfl)) (fun _ _ _ h => h) (Or.inl ⟨by rfl, ?_⟩) ?_ ?_
        rotate_left
        ·intro w'
         go_simp
         with_reducible rfl
        rotate_left
        ·simp only [Act.put, List.setIfInBounds_toArray, List.set_cons_zero, List.set_cons_succ, i64_w, i32_w]
         rfl
        refine pure_ (i := 14) (N := some 65) (v := ?_) (a' := ?_) #[true, true, true, true, true, true, true, true, true, true, true, true, true, true, true, false, false, false, false, false, false, false, false, false, false, false, false, false, false, false, false, false, false, false, false, false, false, false, false] rfl rfl (any_of HT_.out (by kernel_rfl)) (fun _ _ _ h => h) (Or.inl ⟨by rfl, ?_⟩) ?_ ?_
        rotate_left
        ·intro w'
         go_simp
         with_reducible rfl
        rotate_left
        ·simp only [Act.put, List.setIfInBounds_toArray, List.set_cons_zero, List.set_cons_succ, i64_w, i32_w]
         rfl
        refine pure_ (i := 15) (N := some 66) (v := ?_) (a' := ?_) #[true, true, true, true, true, true, true, true, true, true, true, true, true, true, true, true, false, false, false, false, false, false, false, false, false, false, false, false, false, false, false, false, false, false, false, false, false, false, false] rfl rfl (any_of HT_.out (by kernel_rfl)) (fun _ _ _ h => h) (Or.inl ⟨by rfl, ?_⟩) ?_ ?_
        rotate_left
        ·intro w'
         go_simp
         with_reducible rfl
        rotate_left
        ·simp only [Act.put, List.setIfInBounds_toArray, List.set_cons_zero, List.set_cons_succ, i64_w, i32_w]
         rfl
        refine pure_ (i := 16) (N := some 67) (v := ?_) (a' := ?_) #[true, true, true, true, true, true, true, true, true, true, true, true, true, true, true, true, true, false, false, false, false, false, false, false, false, false, false, false, false, false, false, false, false, false, false, false, false, false, false] rfl rfl (any_of HT_.out (by kernel_rfl)) (fun _ _ _ h => h) (Or.inl ⟨by rfl, ?_⟩) ?_ ?_
        rotate_left
        ·intro w'
         go_simp
         with_reducible rfl
        rotate_left
        ·simp only [Act.put, List.setIfInBounds_toArray, List.set_cons_zero, List.set_cons_succ, i64_w, i32_w]
         rfl
        refine pure_ (i := 17) (N := some 68) (v := ?_) (a' := ?_) #[true, true, true, true, true, true, true, true, true, true, true, true, true, true, true, true, true, true, false, false, false, false, false, false, false, false, false, false, false, false, false, false, false, false, false, false, false, false, false] rfl rfl (any_of HT_.out (by kernel_rfl)) (fun _ _ _ h => h) (Or.inl ⟨by rfl, ?_⟩) ?_ ?_
        rotate_left
        ·intro w'
         go_simp
         with_reducible rfl
        rotate_left
        ·simp only [Act.put, List.setIfInBounds_toArray, List.set_cons_zero, List.set_cons_succ, i64_w, i32_w]
         rfl
        refine pure_ (i := 18) (N := some 69) (v := ?_) (a' := ?_) #[true, true, true, true, true, true, true, true, true, true, true, true, true, true, true, true, true, true, true, false, false, false, false, false, false, false, false, false, false, false, false, false, false, false, false, false, false, false, false] rfl rfl (any_of HT_.out (by kernel_rfl)) (fun _ _ _ h => h) (Or.inl ⟨by rfl, ?_⟩) ?_ ?_
        rotate_left
        ·intro w'
         go_simp
         with_reducible rfl
        rotate_left
        ·simp only [Act.put, List.setIfInBounds_toArray, List.set_cons_zero, List.set_cons_succ, i64_w, i32_w]
         rfl
        refine take_ (i := 19) (N := some 70) (v := ?_) (a' := ?_) #[true, true, true, true, true, true, true, true, true, true, true, true, true, true, true, true, true, true, true, true, false, false, false, false, false, false, false, false, false, false, false, false, false, false, false, false, false, false, false] rfl rfl (take_ofW HT_.out HW_.out (by kernel_rfl)) (fun _ _ _ h => h) (Or.inl ⟨by rfl, ?_⟩) hHeld ?_ ?_
        rotate_left
        ·rintro w' ⟨s0, s1, s2, s3, s4, s5, s6, s7, s8, s9, s10, s11, s12, s13, s14, s15, s16, s17, s18, s19, s20, s21, s22, s23, s24, s25, s26⟩
         go_simp
         with_reducible rfl
        rotate_left
        ·simp only [Act.put, List.setIfInBounds_toArray, List.set_cons_zero, List.set_cons_succ, i64_w, i32_w]
         rfl
        refine take_ (i := 20) (N := some 71) (v := ?_) (a' := ?_) #[true, true, true, true, true, true, true, true, true, true, true, true, true, true, true, true, true, true, true, true, true, false, false, false, false, false, false, false, false, false, false, false, false, false, false, false, false, false, false] rfl rfl (take_ofW HT_.out HW_.out (by kernel_rfl)) (fun _ _ _ h => h) (Or.inl ⟨by rfl, ?_⟩) hHeld ?_ ?_
        rotate_left
        ·rintro w' ⟨s0, s1, s2, s3, s4, s5, s6, s7, s8, s9, s10, s11, s12, s13, s14, s15, s16, s17, s18, s19, s20, s21, s22, s23, s24, s25, s26⟩
         go_simp
         with_reducible rfl
        rotate_left
        ·simp only [Act.put, List.setIfInBounds_toArray, List.set_cons_zero, List.set_cons_succ, i64_w, i32_w]
         rfl
        refine pure_ (i := 21) (N := some 72) (v := ?_) (a' := ?_) #[true, true, true, true, true, true, true, true, true, true, true, true, true, true, true, true, true, true, true, true, true, true, false, false, false, false, false, false, false, false, false, false, false, false, false, false, false, false, false] rfl rfl (any_of HT_.out (by kernel_rfl)) (fun _ _ _ h => h) (Or.inl ⟨by rfl, ?_⟩) ?_ ?_
        rotate_left
        ·intro w'
         go_simp
         with_reducible rfl
        rotate_left
        ·simp only [Act.put, List.setIfInBounds_toArray, List.set_cons_zero, List.set_cons_succ, i64_w, i32_w]
         rfl
        refine pure_ (i := 22) (N := some 73) (v := ?_) (a' := ?_) #[true, true, true, true, true, true, true, true, true, true, true, true, true, true, true, true, true, true, true, true, true, true, true, false, false, false, false, false, false, false, false, false, false, false, false, false, false, false, false] rfl rfl (any_of HT_.out (by kernel_rfl)) (fun _ _ _ h => h) (Or.inl ⟨by rfl, ?_⟩) ?_ ?_
        rotate_left
        ·intro w'
         go_simp
         with_reducible rfl
        rotate_left
        ·simp only [Act.put, List.setIfInBounds_toArray, List.set_cons_zero, List.set_cons_succ, i64_w, i32_w]
         rfl
        refine pure_ (i := 23) (N := some 74) (v := ?_) (a' := ?_) #[true, true, true, true, true, true, true, true, true, true, true, true, true, true, true, true, true, true, true, true, true, true, true, true, false, false, false, false, false, false, false, false, false, false, false, false, false, false, false] rfl rfl (any_of HT_.out (by kernel_rfl)) (fun _ _ _ h => h) (Or.inl ⟨by rfl, ?_⟩) ?_ ?_
        rotate_left
        ·intro w'
         go_simp
         with_reducible rfl
        rotate_left
        ·simp only [Act.put, List.setIfInBounds_toArray, List.set_cons_zero, List.set_cons_succ, i64_w, i32_w]
         rfl
        refine pure_ (i := 24) (N := some 75) (v := ?_) (a' := ?_) #[true, true, true, true, true, true, true, true, true, true, true, true, true, true, true, true, true, true, true, true, true, true, true, true, true, false, false, false, false, false, false, false, false, false, false, false, false, false, false] rfl rfl (any_of HT_.out (by kernel_rfl)) (fun _ _ _ h => h) (Or.inl ⟨by rfl, ?_⟩) ?_ ?_
        rotate_left
        ·intro w'
         go_simp
         with_reducible rfl
        rotate_left
        ·simp only [Act.put, List.setIfInBounds_toArray, List.set_cons_zero, List.set_cons_succ, i64_w, i32_w]
         rfl
        refine pure_ (i := 25) (N := some 76) (v := ?_) (a' := ?_) #[true, true, true, true, true, true, true, true, true, true, true, true, true, true, true, true, true, true, true, true, true, true, true, true, true, true, false, false, false, false, false, false, false, false, false, false, false, false, false] rfl rfl (any_of HT_.out (by kernel_rfl)) (fun _ _ _ h => h) (Or.inl ⟨by rfl, ?_⟩) ?_ ?_
        rotate_left
        ·intro w'
         go_simp
         with_reducible rfl
        rotate_left
        ·simp only [Act.put, List.setIfInBounds_toArray, List.set_cons_zero, List.set_cons_succ, i64_w, i32_w]
         rfl
        refine pure_ (i := 26) (N := some 77) (v := ?_) (a' := ?_) #[true, true, true, true, true, true, true, true, true, true, true, true, true, true, true, true, true, true, true, true, true, true, true, true, true, true, true, false, false, false, false, false, false, false, false, false, false, false, false] rfl rfl (any_of HT_.out (by kernel_rfl)) (fun _ _ _ h => h) (Or.inl ⟨by rfl, ?_⟩) ?_ ?_
        rotate_left
        ·intro w'
         go_simp
         with_reducible rfl
        rotate_left
        ·simp only [Act.put, List.setIfInBounds_toArray, List.set_cons_zero, List.set_cons_succ, i64_w, i32_w]
         rfl
        refine pure_ (i := 27) (N := some 78) (v := ?_) (a' := ?_) #[true, true, true, true, true, true, true, true, true, true, true, true, true, true, true, true, true, true, true, true, true, true, true, true, true, true, true, true, false, false, false, false, false, false, false, false, false, false, false] rfl rfl (any_of HT_.out (by kernel_rfl)) (fun _ _ _ h => h) (Or.inl ⟨by rfl, ?_⟩) ?_ ?_
        rotate_left
        ·intro w'
         go_simp
         with_reducible rfl
        rotate_left
        ·simp only [Act.put, List.setIfInBounds_toArray, List.set_cons_zero, List.set_cons_succ, i64_w, i32_w]
         rfl
        refine pure_ (i := 28) (N := some 79) (v := ?_) (a' := ?_) #[true, true, true, true, true, true, true, true, true, true, true, true, true, true, true, true, true, true, true, true, true, true, true, true, true, true, true, true, true, false, false, false, false, false, false, false, false, false, false] rfl rfl (any_of HT_.out (by kernel_rfl)) (fun _ _ _ h => h) (Or.inl ⟨by rfl, ?_⟩) ?_ ?_
        rotate_left
        ·intro w'
         go_simp
         with_reducible rfl
        rotate_left
        ·simp only [Act.put, List.setIfInBounds_toArray, List.set_cons_zero, List.set_cons_succ, i64_w, i32_w]
         rfl
        refine pure_ (i := 29) (N := some 80) (v := ?_) (a' := ?_) #[true, true, true, true, true, true, true, true, true, true, true, true, true, true, true, true, true, true, true, true, true, true, true, true, true, true, true, true, true, true, false, false, false, false, false, false, false, false, false] rfl rfl (any_of HT_.out (by kernel_rfl)) (fun _ _ _ h => h) (Or.inl ⟨by rfl, ?_⟩) ?_ ?_
        rotate_left
        ·intro w'
         go_simp
         with_reducible rfl
        rotate_left
        ·simp only [Act.put, List.setIfInBounds_toArray, List.set_cons_zero, List.set_cons_succ, i64_w, i32_w]
         rfl
        refine pure_ (i := 30) (N := some 81) (v := ?_) (a' := ?_) #[true, true, true, true, true, true, true, true, true, true, true, true, true, true, true, true, true, true, true, true, true, true, true, true, true, true, true, true, true, true, true, false, false, false, false, false, false, false, false] rfl rfl (any_of HT_.out (by kernel_rfl)) (fun _ _ _ h => h) (Or.inl ⟨by rfl, ?_⟩) ?_ ?_
        rotate_left
        ·intro w'
         go_simp
         with_reducible rfl
        rotate_left
        ·simp only [Act.put, List.setIfInBounds_toArray, List.set_cons_zero, List.set_cons_succ, i64_w, i32_w]
         rfl
        refine one_ (i := 31) (N := some 82) #[true, true, true, true, true, true, true, true, true, true, true, true, true, true, true, true, true, true, true, true, true, true, true, true, true, true, true, true, true, true, true, true, false, false, false, false, false, false, false] rfl rfl (one_of HT_.out (by kernel_rfl)) (by decide) (fun K hK => ?_)
        refine goes_ Try.func14 (by kernel_rfl) rfl #[.slice Ao44 t253.length co44, .slice Ao45 t257.length co45] (by rfl) rfl rfl (by (try simp only [List.map_toArray, List.map_cons, List.map_nil]); first | done | rfl | (simp only [List.length_drop, List.length_take]; rfl)) ?_
        with_reducible refine (ref23_Same.calls k _ _ t253 _ _ t257 true _ ?side1 ?side2 ?side3 ?side4 A22.out).mono ?_
        (case side1 => repeat (first | exact (Kd.R_reads' HO256.out).2.2 | (with_reducible refine Kd.C_alloc ?_ _) | (with_reducible refine Kd.C_drewN ?_ _) | (with_reducible refine Kd.C_drew ?_)))
        (case side2 => exact (Kd.R_reads' HO256.out).2.1)
        (case side3 => repeat (first | exact (Kd.R_reads' HO260.out).2.2 | (with_reducible refine Kd.C_alloc ?_ _) | (with_reducible refine Kd.C_drewN ?_ _) | (with_reducible refine Kd.C_drew ?_)))
        (case side4 => exact (Kd.R_reads' HO260.out).2.1)
        rintro e w' ⟨rfl, ⟨nd, rfl⟩⟩
        refine ⟨_, rfl, ?_⟩
        refine hK.out _ _ ⟨(blk_cell BK225.out 0).trans rfl, (blk_cell BK225.out 1).trans rfl, (blk_cell BK225.out 2).trans rfl, (blk_cell BK225.out 3).trans rfl, (blk_cell BK225.out 4).trans rfl, (blk_cell BK225.out 5).trans rfl, (blk_cell BK225.out 6).trans rfl, (blk_cell BK225.out 7).trans rfl, (blk_cell BK225.out 8).trans rfl, (blk_cell BK241.out 0).trans rfl, (blk_cell BK241.out 1).trans rfl, (blk_cell BK241.out 2).trans rfl, (blk_cell BK241.out 3).trans rfl, (blk_cell BK241.out 4).trans rfl, (blk_cell BK241.out 5).trans rfl, (blk_cell BK241.out 6).trans rfl, (blk_cell BK241.out 7).trans rfl, (blk_cell BK241.out 8).trans rfl, (blk_cell BK252.out 0).trans rfl, (blk_cell BK252.out 1).trans rfl, (blk_cell BK252.out 2).trans rfl, (blk_cell BK252.out 3).trans rfl, (blk_cell BK252.out 4).trans rfl, (blk_cell BK252.out 5).trans rfl, (blk_cell BK252.out 6).trans rfl, (blk_cell BK252.out 7).trans rfl, (blk_cell BK252.out 8).trans rfl⟩ (fun hHeld => ?_)
        clear hK K
        refine norm_ (a' := ?_) ?_ ?_
        rotate_left
        ·show Act.put _ (some 82) _ = _
         simp only [Act.put, List.setIfInBounds_toArray, List.set_cons_zero, List.set_cons_succ, i64_w, i32_w]
         rfl
        refine pure_ (i := 32) (N := some 83) (v := ?_) (a' := ?_) #[true, true, true, true, true, true, true, true, true, true, true, true, true, true, true, true, true, true, true, true, true, true, true, true, true, true, true, true, true, true, true, true, true, false, false, false, false, false, false] rfl rfl (any_of HT_.out (by kernel_rfl)) (fun _ _ _ h => h) (Or.inl ⟨by rfl, ?_⟩) ?_ ?_
        rotate_left
        ·intro w'
         go_simp
         with_reducible rfl
        rotate_left
        ·simp only [Act.put, List.setIfInBounds_toArray, List.set_cons_zero, List.set_cons_succ, i64_w, i32_w]
         rfl
        refine pure_ (i := 33) (N := some 84) (v := ?_) (a' := ?_) #[true, true, true, true, true, true, true, true, true, true, true, true, true, true, true, true, true, true, true, true, true, true, true, true, true, true, true, true, true, true, true, true, true, true, false, false, false, false, false] rfl rfl (any_of HT_.out (by kernel_rfl)) (fun _ _ _ h => h) (Or.inl ⟨by rfl, ?_⟩) ?_ ?_
        rotate_left
        ·intro w'
         go_simp
         with_reducible rfl
        rotate_left
        ·simp only [Act.put, List.setIfInBounds_toArray, List.set_cons_zero, List.set_cons_succ, i64_w, i32_w]
         rfl
        refine pure_ (i := 34) (N := some 85) (v := ?_) (a' := ?_) #[true, true, true, true, true, true, true, true, true, true, true, true, true, true, true, true, true, true, true, true, true, true, true, true, true, true, true, true, true, true, true, true, true, true, true, false, false, false, false] rfl rfl (any_of HT_.out (by kernel_rfl)) (fun _ _ _ h => h) (Or.inl ⟨by rfl, ?_⟩) ?_ ?_
        rotate_left
        ·intro w'
         go_simp
         with_reducible rfl
        rotate_left
        ·simp only [Act.put, List.setIfInBounds_toArray, List.set_cons_zero, List.set_cons_succ, i64_w, i32_w]
         rfl
        refine pure_ (i := 35) (N := some 86) (v := ?_) (a' := ?_) #[true, true, true, true, true, true, true, true, true, true, true, true, true, true, true, true, true, true, true, true, true, true, true, true, true, true, true, true, true, true, true, true, true, true, true, true, false, false, false] rfl rfl (any_of HT_.out (by kernel_rfl)) (fun _ _ _ h => h) (Or.inl ⟨by rfl, ?_⟩) ?_ ?_
        rotate_left
        ·intro w'
         go_simp
         with_reducible rfl
        rotate_left
        ·simp only [Act.put, List.setIfInBounds_toArray, List.set_cons_zero, List.set_cons_succ, i64_w, i32_w]
         rfl
        refine pure_ (i := 36) (N := some 87) (v := ?_) (a' := ?_) #[true, true, true, true, true, true, true, true, true, true, true, true, true, true, true, true, true, true, true, true, true, true, true, true, true, true, true, true, true, true, true, true, true, true, true, true, true, false, false] rfl rfl (any_of HT_.out (by kernel_rfl)) (fun _ _ _ h => h) (Or.inl ⟨by rfl, ?_⟩) ?_ ?_
        rotate_left
        ·intro w'
         go_simp
         with_reducible rfl
        rotate_left
        ·simp only [Act.put, List.setIfInBounds_toArray, List.set_cons_zero, List.set_cons_succ, i64_w, i32_w]
         rfl
        refine pure_ (i := 37) (N := some 88) (v := ?_) (a' := ?_) #[true, true, true, true, true, true, true, true, true, true, true, true, true, true, true, true, true, true, true, true, true, true, true, true, true, true, true, true, true, true, true, true, true, true, true, true, true, true, false] rfl rfl (any_of HT_.out (by kernel_rfl)) (fun _ _ _ h => h) (Or.inl ⟨by rfl, ?_⟩) ?_ ?_
        rotate_left
        ·intro w'
         go_simp
         with_reducible rfl
        rotate_left
        ·simp only [Act.put, List.setIfInBounds_toArray, List.set_cons_zero, List.set_cons_succ, i64_w, i32_w]
         rfl
        refine pure_ (i := 38) (N := some 4) (v := ?_) (a' := ?_) #[true, true, true, true, true, true, true, true, true, true, true, true, true, true, true, true, true, true, true, true, true, true, true, true, true, true, true, true, true, true, true, true, true, true, true, true, true, true, true] rfl rfl (any_of HT_.out (by kernel_rfl)) (fun _ _ _ h => h) (Or.inl ⟨by rfl, ?_⟩) ?_ ?_
        rotate_left
        ·intro w'
         go_simp
         with_reducible rfl
        rotate_left
        ·simp only [Act.put, List.setIfInBounds_toArray, List.set_cons_zero, List.set_cons_succ, i64_w, i32_w]
         rfl
        refine done_ (done_of HT_.out (by kernel_rfl)) ?_
        try go_wp2
        go_ret
        exact ⟨by first | rfl | (simp [errW_none, errW_some] <;> rfl) | (simp [*, errW_none, errW_some] <;> rfl), by repeat (first | (with_reducible first | exact HB.out | apply below_alloc | apply pw_below_drewN | apply below_drew1 | refine below_set ?_ GE225.out | refine below_set ?_ GE241.out | refine below_set ?_ GE252.out) | exact HB.out)⟩
       ·replace c23 := Bool.eq_false_iff.mpr c23
        subst c23
        have H1 : (none) = some r := by rw [if_neg (show ¬ (false = true) by decide)] at H; exact H
        clear H
        have H := H1
        clear H1
        exact absurd H (by simp)
      ·rw [if_neg c21] at H
       have c21b0 : (t240 == t251) = false := by simpa using c21
       (try (have c21b1 : decide (t240 = t251) = false := by simpa using c21))
       (try (have c21b2 : (t240 == t251) = false := by simpa using c21))
       (try (have c21b3 : ¬ (t240 = t251) := by simpa using c21))
       clear c21
       exact absurd H (by simp)
     ·rw [if_neg c20] at H
      have c20b0 : (t231 == t242 && (t232 == t243 && (t233 == t244 && (t234 == t245 && (t235 == t246 && (t236 == t247 && (t237 == t248 && (t238 == t249 && (t239 == t250))))))))) = false := by simpa using c20
      (try (have c20b1 : decide (t231 = t242 && (t232 == t243 && (t233 == t244 && (t234 == t245 && (t235 == t246 && (t236 == t247 && (t237 == t248 && (t238 == t249 && (t239 == t250))))))))) = false := by simpa using c20))
      (try (have c20b2 : (t231 == t242 && (t232 == t243 && (t233 == t244 && (t234 == t245 && (t235 == t246 && (t236 == t247 && (t237 == t248 && (t238 == t249 && (t239 == t250))))))))) = false := by simpa using c20))
      (try (have c20b3 : ¬ (t231 = t242 && (t232 == t243 && (t233 == t244 && (t234 == t245 && (t235 == t246 && (t236 == t247 && (t237 == t248 && (t238 == t249 && (t239 == t250))))))))) := by simpa using c20))
      clear c20
      exact absurd H (by simp)
    ·rw [if_neg c19] at H
     have c19b0 : (t228 == t230) = false := by simpa using c19
     (try (have c19b1 : decide (t228 = t230) = false := by simpa using c19))
     (try (have c19b2 : (t228 == t230) = false := by simpa using c19))
     (try (have c19b3 : ¬ (t228 = t230) := by simpa using c19))
     clear c19
     exact absurd H (by simp)
   ·rw [if_neg c17] at H
    have c17b0 : (t262 == t263) = false := by simpa using c17
    (try (have c17b1 : decide (t262 = t263) = false := by simpa using c17))
    (try (have c17b2 : (t262 == t263) = false := by simpa using c17))
    (try (have c17b3 : ¬ (t262 = t263) := by simpa using c17))
    clear c17
    exact absurd H (by simp)
  ·replace c14 := Bool.eq_false_iff.mpr c14
   subst c14
   have H1 : (none) = some r := by rw [if_neg (show ¬ (false = true) by decide)] at H; exact H
   clear H
   have H := H1
   clear H1
   exact absurd H (by simp)

end Go.Proofs.Ytimljcnmochmnaa.P

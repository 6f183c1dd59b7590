-- Written by a program of this session (wip/mkprint.py). Not trusted: Lean checks it.
import Derived.Test.YtfapfpkijeaapaaP0
import Derived.Test.YtfapfpkijeaapaaP3
import Derived.Test.YtfapfpkijeaapaaP12
namespace Go.Proofs.Ytfapfpkijeaapaa.P
open Go.RowKit Go.Proofs.YtfapfpkijeaapaaW.PrintWords Go.Proofs.YtfapfpkijeaapaaW.PrintLast Go.Proofs.YtfapfpkijeaapaaW.PrintMore
attribute [local go_sem] max2_int min2_int max_two min_two max_three min_three max_four min_four   -- for this text's walks alone
set_option linter.unusedVariables false
set_option linter.unusedSimpArgs false

attribute [local go_sem high] eqA59
/-! ### ref09_Push: function 29 -/
mutual
def ref09_Push.l0 : Nat → ByteArray → List (S38) → Int → ByteArray → Bool → Option (ByteArray × Bool × (List (S38)))
 | 0, _, _, _, _, _ => none
 | k + 1, x1, x6, x7, x277000, x277001 => if x7 < (x1.size : Int) then (ref09_Push.j1 k x1 x6 x7 (!x277001) x277000 x277001) else (ref09_Push.j1 k x1 x6 x7 false x277000 x277001)
def ref09_Push.j1 : Nat → ByteArray → List (S38) → Int → Bool → ByteArray → Bool → Option (ByteArray × Bool × (List (S38)))
 | 0, _, _, _, _, _, _ => none
 | k + 1, x1, x6, x7, x20, x277000, x277001 => if x20 = true then (if 0 ≤ x7 then (if x7 ≤ (wrap64 (x7 + 1)) then (if (wrap64 (x7 + 1)) ≤ (x1.size : Int) then (if x277000.size + (((wrap64 (x7 + 1)) : Int).toNat - (x7 : Int).toNat) ≤ 9223372036854775807 then ((ref08_Need.f (x277000 ++ (x1.extract (x7 : Int).toNat ((wrap64 (x7 + 1)) : Int).toNat))).bind fun bt278 => (if bt278.2 = 0 then (if bt278.1 > 0 then (if ((x277000.size : Int) + ((((wrap64 (x7 + 1)) : Int).toNat - (x7 : Int).toNat : Nat) : Int)) = bt278.1 then ((ref08_Get.f (x277000 ++ (x1.extract (x7 : Int).toNat ((wrap64 (x7 + 1)) : Int).toNat))).bind fun bt280 => (if x6.length < 4398046511104 then (ref09_Push.l0 k x1 (x6 ++ [(⟨bt280.1, bt280.2.1, bt280.2.2.1⟩ : S38)]) (wrap64 (x7 + 1)) (⟨#[]⟩ : ByteArray) x277001) else (none))) else (ref09_Push.l0 k x1 x6 (wrap64 (x7 + 1)) (x277000 ++ (x1.extract (x7 : Int).toNat ((wrap64 (x7 + 1)) : Int).toNat)) x277001)) else (ref09_Push.l0 k x1 x6 (wrap64 (x7 + 1)) (x277000 ++ (x1.extract (x7 : Int).toNat ((wrap64 (x7 + 1)) : Int).toNat)) x277001)) else (ref09_Push.l0 k x1 x6 (wrap64 (x7 + 1)) (⟨#[]⟩ : ByteArray) true))) else (none)) else (none)) else (none)) else (none)) else (some (x277000, x277001, x6))
end
def ref09_Push.f (k : Nat) (a0_0 : ByteArray) (a0_1 : Bool) (a1 : ByteArray) : Option (ByteArray × Bool × (List (S38))) := ref09_Push.l0 k a1 ([] : List (S38)) 0 a0_0 a0_1
theorem ref09_Push.mono_l : ∀ k, (∀ y0 y1 y2 y3 y4, LeO (ref09_Push.l0 k y0 y1 y2 y3 y4) (ref09_Push.l0 (k + 1) y0 y1 y2 y3 y4)) ∧ (∀ y0 y1 y2 y3 y4 y5, LeO (ref09_Push.j1 k y0 y1 y2 y3 y4 y5) (ref09_Push.j1 (k + 1) y0 y1 y2 y3 y4 y5))
 | 0 => ⟨fun _ _ _ _ _ r h => by simp [ref09_Push.l0] at h, fun _ _ _ _ _ _ r h => by simp [ref09_Push.j1] at h⟩
 | k + 1 => by
  obtain ⟨ih0, ih1⟩ := ref09_Push.mono_l k
  refine ⟨?_, ?_⟩
  ·intro y0 y1 y2 y3 y4
   unfold ref09_Push.l0
   repeat' first
   | (with_reducible exact ih0 _ _ _ _ _)
   | (with_reducible exact ih1 _ _ _ _ _ _)
   | (with_reducible exact LeO.refl _)
   | (with_reducible exact LeO.none _)
   | (with_reducible refine LeO.ite ?_ ?_)
   | (with_reducible refine LeO.bind ?_ (fun _ => ?_))
   | exact ih0 _ _ _ _ _
   | exact ih1 _ _ _ _ _ _
   | exact LeO.none _
   | refine LeO.ite ?_ ?_
   | refine LeO.bind ?_ (fun _ => ?_)
  ·intro y0 y1 y2 y3 y4 y5
   unfold ref09_Push.j1
   repeat' first
   | (with_reducible exact ih0 _ _ _ _ _)
   | (with_reducible exact ih1 _ _ _ _ _ _)
   | (with_reducible exact LeO.refl _)
   | (with_reducible exact LeO.none _)
   | (with_reducible refine LeO.ite ?_ ?_)
   | (with_reducible refine LeO.bind ?_ (fun _ => ?_))
   | exact ih0 _ _ _ _ _
   | exact ih1 _ _ _ _ _ _
   | exact LeO.none _
   | refine LeO.ite ?_ ?_
   | refine LeO.bind ?_ (fun _ => ?_)
theorem ref09_Push.mono : ∀ a0 a1 a2 k, LeO (ref09_Push.f k a0 a1 a2) (ref09_Push.f (k + 1) a0 a1 a2) := by
 intro a0 a1 a2 k
 obtain ⟨ih0, ih1⟩ := ref09_Push.mono_l k
 unfold ref09_Push.f
 repeat' first
  | (with_reducible exact ih0 _ _ _ _ _)
  | (with_reducible exact ih1 _ _ _ _ _ _)
  | (with_reducible exact LeO.refl _)
  | (with_reducible exact LeO.none _)
  | (with_reducible refine LeO.ite ?_ ?_)
  | (with_reducible refine LeO.bind ?_ (fun _ => ?_))
  | exact ih0 _ _ _ _ _
  | exact ih1 _ _ _ _ _ _
  | exact LeO.none _
  | refine LeO.ite ?_ ?_
  | refine LeO.bind ?_ (fun _ => ?_)
def ref09_Push.T5 : Bool × List (List Nat × List Nat) := (true, [([], []), ([0], [0]), ([], []), ([], []), ([], []), ([4], [4]), ([2, 3, 5], [2, 3, 5]), ([1, 6], [1, 6]), ([0, 1, 2, 3, 4, 5, 6, 7], []), ([8, 7, 0, 1, 2, 3, 4, 5, 6, 7], [7, 8])])
def ref09_Push.B5 : List Nat := [0, 1, 0, 0, 0, 16, 60, 127, 255, 511]
theorem ref09_Push.tab5 : rtab .any (opsOf Try.f29 5) = ref09_Push.T5 := by kernel_rfl
theorem ref09_Push.bits5 : waitsOk ref09_Push.T5.2 ref09_Push.B5 = true := by kernel_rfl
set_option maxHeartbeats 8000000 in
set_option maxRecDepth 100000 in
theorem ref09_Push.calls (k : Nat) (a0_0 : ByteArray) (a0_1 : Bool) (a1 : ByteArray) (r1 : ByteArray) (r2 : Bool) (r3 : List (S38)) (w : World) (h : ref09_Push.f k a0_0 a0_1 a1 = some (r1, r2, r3)) :
 Calls Try.prog 29 #[.agg #[.string a0_0, .bool a0_1], .string a1] w fun e w' => ∃ v2_ : Value, e = .returned (.tuple #[.agg #[.string r1, .bool r2], v2_]) ∧ Kd.R k38 38 w' w.heap.size (fun _ => True) v2_ r3 ∧ Below w.heap.size w w' := by
 have hu59 := Try.underlying59
 have hu38 := Try.underlying38
 have HB := Aside0.mk (Below.refl w.heap.size w)
 have H : (ref09_Push.l0 k a1 ([] : List (S38)) 0 a0_0 a0_1) = some (r1, r2, r3) := h
 clear h
 have H' := Aside0.mk H
 clear H
 go_enter Try.func29, Try.ntmps29
 go_wp2_with (first | ((with_reducible refine gate_dst (N := 2) rfl ?_); (try (refine gate_guard (by rfl) ?_; dsimp only)); refine box_event ?hg (N := 2) ?hd (cs := #[.string a0_0, .bool a0_1]) (t := 59) ?hr ?_; (case hd => rfl); (case hg => rfl); (case hr => first | (go_simp; done) | (go_simp; rfl)); intro gb276 hg w3 hbox hb; have n0_ := Aside0.mk (zU (by repeat (first | (with_reducible first | exact HB.out | apply zF | apply zD | apply zE) | exact HB.out)) hb); have n1_ := Aside0.mk (hbox); have n2_ := Aside0.mk ((by rw [hg]; exact (zT (by repeat (first | (with_reducible first | exact HB.out | apply zF | apply zD | apply zE) | exact HB.out))) : w.heap.size ≤ gb276)); have n3_ := Aside0.mk ((by rw [hg]; exact (zT (by repeat (first | (with_reducible first | exact HB.out | apply zF | apply zD | apply zE) | exact HB.out))) : w.heap.size ≤ gb276)); clear HB; have HB := n0_; have BK276 := n1_; have GW276 := n2_; have GE276 := n3_; clear n0_ n1_ n2_ n3_; clear hb hbox hg) | ((with_reducible refine gate_dst (N := 4) rfl ?_); (try (refine gate_guard (by rfl) ?_; dsimp only)); refine box_event ?hg (N := 4) ?hd (cs := #[.string (⟨#[]⟩ : ByteArray), .bool false]) (t := 59) ?hr ?_; (case hd => rfl); (case hg => rfl); (case hr => first | (go_simp; done) | (go_simp; rfl)); intro gb277 hg w4 hbox hb; have n0_ := Aside0.mk (blk_below (g := gb276) (o := .cells #[.string a0_0, .bool a0_1] 59 (0, 0)) (by (with_reducible repeat (first | refine zH ?_ _ | refine zI ?_ | refine zG ?_ _)); exact BK276.out) hb); have n1_ := Aside0.mk (zU (by repeat (first | (with_reducible first | exact HB.out | apply zF | apply zD | apply zE | refine zJ ?_ GE276.out) | exact HB.out)) hb); have n2_ := Aside0.mk (hbox); have n3_ := Aside0.mk ((by rw [hg]; exact (zT (by repeat (first | (with_reducible first | exact HB.out | apply zF | apply zD | apply zE | refine zJ ?_ GE276.out) | exact HB.out))) : w.heap.size ≤ gb277)); have n4_ := Aside0.mk ((by rw [hg]; exact (zT (by repeat (first | (with_reducible first | exact HB.out | apply zF | apply zD | apply zE | refine zJ ?_ GE276.out) | exact HB.out))) : w.heap.size ≤ gb277)); have n5_ := Aside0.mk ((by rw [hg]; exact Nat.ne_of_lt (blk_lt (g := gb276) (o := .cells #[.string a0_0, .bool a0_1] 59 (0, 0)) (by (with_reducible repeat (first | refine zH ?_ _ | refine zI ?_ | refine zG ?_ _)); exact BK276.out)) : gb276 ≠ gb277)); have n6_ := Aside0.mk ((by rw [hg]; exact Nat.ne_of_gt (blk_lt (g := gb276) (o := .cells #[.string a0_0, .bool a0_1] 59 (0, 0)) (by (with_reducible repeat (first | refine zH ?_ _ | refine zI ?_ | refine zG ?_ _)); exact BK276.out)) : gb277 ≠ gb276)); clear BK276; clear HB; have BK276 := n0_; have HB := n1_; have BK277 := n2_; have GW277 := n3_; have GE277 := n4_; have NB276_277 := n5_; have NB277_276 := n6_; clear n0_ n1_ n2_ n3_ n4_ n5_ n6_; clear hb hbox hg))
 go_loopg [6, 7] k (fun kq v6 v7 w' => ∃ (x6_1 : List (S38)) (x7_1 : Int) (x277000_1 : ByteArray) (x277001_1 : Bool), v7 = .int .i64 x7_1 ∧ Aside0 (ref09_Push.l0 kq a1 x6_1 x7_1 x277000_1 x277001_1 = some (r1, r2, r3)) ∧ Aside0 (kq ≤ k) ∧ Aside0 (Kd.R k38 38 w' w.heap.size (fun _ => True) v6 x6_1) ∧ Aside0 (w'.heap[gb276]? = some (.cells #[.string x277000_1, .bool x277001_1] 59 (0, 0))) ∧ Aside0 (w'.heap[gb277]? = some (.cells #[.string (⟨#[]⟩ : ByteArray), .bool false] 59 (0, 0))) ∧ Aside0 (Below w.heap.size w w'))
 case atStart => exact ⟨(([] : List (S38))), (0), (a0_0), (a0_1), (by first | rfl | (simp; done) | (simp [*]; done) | (simp [bne_nil_]; done)), H', ⟨Nat.le_refl _⟩, ⟨by first | exact Kd.R_nil _ _ _ _ _ | exact Kd.N_nil _ _ _ _ _ | exact Kd.V_nil _ _ _ _ _ | exact Kd.Q_nil _ _ _ _ _ | exact Kd.S_nil _ _ _ _ _⟩, ⟨by (with_reducible repeat (first | refine zH ?_ _ | refine zI ?_ | refine zG ?_ _)); exact BK276.out⟩, ⟨by (with_reducible repeat (first | refine zH ?_ _ | refine zI ?_ | refine zG ?_ _)); exact BK277.out⟩, ⟨by repeat (first | (with_reducible first | exact HB.out | apply zF | apply zD | apply zE | refine zJ ?_ GE276.out | refine zJ ?_ GE277.out) | exact HB.out)⟩⟩
 case round =>
  clear H'
  try clear c2
  try clear p2
  obtain ⟨x6_1, x7_1, x277000_1, x277001_1, rfl, HA, HK1, HO_6, BK276, BK277, HB⟩ := hrel
  cases gk with
  | zero => exact absurd HA.out (by simp [ref09_Push.l0])
  | succ k1 =>
   have H := HA.out
   clear HA
   simp only [ref09_Push.l0] at H
   have HC5 := Aside0.mk H
   clear H
   go_upto_region 3 with (fail)
   go_cut [20] (fun v20 wc => ∃ (kq : Nat) (x20_4 : Bool), v20 = .bool x20_4 ∧ Aside0 (ref09_Push.j1 kq a1 x6_1 x7_1 x20_4 x277000_1 x277001_1 = some (r1, r2, r3)) ∧ Aside0 (kq ≤ k1) ∧ Aside0 (Kd.R k38 38 wc w.heap.size (fun _ => True) u6 x6_1) ∧ Aside0 (wc.heap[gb276]? = some (.cells #[.string x277000_1, .bool x277001_1] 59 (0, 0))) ∧ Aside0 (wc.heap[gb277]? = some (.cells #[.string (⟨#[]⟩ : ByteArray), .bool false] 59 (0, 0))) ∧ Aside0 (Below w.heap.size w wc))
   case first =>
    have H := HC5.out
    clear HC5
    by_cases c6 : x7_1 < (a1.size : Int)
    ·rw [if_pos c6] at H
     have c6b0 : decide (x7_1 < (a1.size : Int)) = true := zW c6
     clear c6
     (first | rw [c6b0] | (simp only [i64_w, i32_w]; rw [c6b0]) | skip)
     have H' := Aside0.mk H
     clear H
     have hnb7 := NB276_277.out
     have hnc7 := NB277_276.out
     have hcz8_0 : wr.cell? ⟨gb276, 0, none⟩ = some (.string x277000_1) := (zK BK276.out 0).trans rfl
     have hcz8_1 : wr.cell? ⟨gb276, 1, none⟩ = some (.bool x277001_1) := (zK BK276.out 1).trans rfl
     have hfz8_0 := zL BK276.out 0
     have hfz8_1 := zL BK276.out 1
     go_wp2
     go_meet
     case rel => exact ⟨_, (!x277001_1), (by first | rfl | (simp; done) | (simp [*]; done) | (simp [bne_nil_]; done)), H', ⟨by have := HK1.out; first | omega | exact Nat.le_refl _⟩, ⟨by (with_reducible repeat (first | apply zY | apply zX | apply zZ)); exact HO_6.out⟩, ⟨by (with_reducible repeat (first | refine zH ?_ _ | refine zI ?_ | refine zG ?_ _)); exact BK276.out⟩, ⟨by (with_reducible repeat (first | refine zH ?_ _ | refine zI ?_ | refine zG ?_ _)); exact BK277.out⟩, ⟨by repeat (first | (with_reducible first | exact HB.out | apply zF | apply zD | apply zE | refine zJ ?_ GE276.out | refine zJ ?_ GE277.out) | exact HB.out)⟩⟩
    ·rw [if_neg c6] at H
     have c6b0 : decide (x7_1 < (a1.size : Int)) = false := decide_eq_false c6
     clear c6
     (first | rw [c6b0] | (simp only [i64_w, i32_w]; rw [c6b0]) | skip)
     have H' := Aside0.mk H
     clear H
     go_wp2
     go_meet
     case rel => exact ⟨_, (false), (by first | rfl | (simp; done) | (simp [*]; done) | (simp [bne_nil_]; done)), H', ⟨by have := HK1.out; first | omega | exact Nat.le_refl _⟩, ⟨by (with_reducible repeat (first | apply zY | apply zX | apply zZ)); exact HO_6.out⟩, ⟨by (with_reducible repeat (first | refine zH ?_ _ | refine zI ?_ | refine zG ?_ _)); exact BK276.out⟩, ⟨by (with_reducible repeat (first | refine zH ?_ _ | refine zI ?_ | refine zG ?_ _)); exact BK277.out⟩, ⟨by repeat (first | (with_reducible first | exact HB.out | apply zF | apply zD | apply zE | refine zJ ?_ GE276.out | refine zJ ?_ GE277.out) | exact HB.out)⟩⟩
   case rest =>
    clear HC5
    try clear c2
    try clear p2
    try clear c6
    try clear c6b0
    try clear c7
    try clear hcz8_0
    try clear hcz8_1
    try clear hfz8_0
    try clear hfz8_1
    try clear p2
    obtain ⟨kq, x20_4, rfl, HA, HJ4, HO_6, BK276, BK277, HB⟩ := hcut
    cases kq with
    | zero => exact absurd HA.out (by simp [ref09_Push.j1])
    | succ kj4 =>
     have H := HA.out
     clear HA
     simp only [ref09_Push.j1] at H
     by_cases c9 : x20_4 = true
     ·subst c9
      have H1 : (if 0 ≤ x7_1 then (if x7_1 ≤ (wrap64 (x7_1 + 1)) then (if (wrap64 (x7_1 + 1)) ≤ (a1.size : Int) then (if x277000_1.size + (((wrap64 (x7_1 + 1)) : Int).toNat - (x7_1 : Int).toNat) ≤ 9223372036854775807 then ((ref08_Need.f (x277000_1 ++ (a1.extract (x7_1 : Int).toNat ((wrap64 (x7_1 + 1)) : Int).toNat))).bind fun bt278 => (if bt278.2 = 0 then (if bt278.1 > 0 then (if ((x277000_1.size : Int) + ((((wrap64 (x7_1 + 1)) : Int).toNat - (x7_1 : Int).toNat : Nat) : Int)) = bt278.1 then ((ref08_Get.f (x277000_1 ++ (a1.extract (x7_1 : Int).toNat ((wrap64 (x7_1 + 1)) : Int).toNat))).bind fun bt280 => (if x6_1.length < 4398046511104 then (ref09_Push.l0 kj4 a1 (x6_1 ++ [(⟨bt280.1, bt280.2.1, bt280.2.2.1⟩ : S38)]) (wrap64 (x7_1 + 1)) (⟨#[]⟩ : ByteArray) x277001_1) else (none))) else (ref09_Push.l0 kj4 a1 x6_1 (wrap64 (x7_1 + 1)) (x277000_1 ++ (a1.extract (x7_1 : Int).toNat ((wrap64 (x7_1 + 1)) : Int).toNat)) x277001_1)) else (ref09_Push.l0 kj4 a1 x6_1 (wrap64 (x7_1 + 1)) (x277000_1 ++ (a1.extract (x7_1 : Int).toNat ((wrap64 (x7_1 + 1)) : Int).toNat)) x277001_1)) else (ref09_Push.l0 kj4 a1 x6_1 (wrap64 (x7_1 + 1)) (⟨#[]⟩ : ByteArray) true))) else (none)) else (none)) else (none)) else (none)) = some (r1, r2, r3) := by rw [if_pos rfl] at H; exact H
      clear H
      have H := H1
      clear H1
      by_cases c10 : 0 ≤ x7_1
      rotate_left
      ·rw [if_neg c10] at H
       exact absurd H (by simp)
      rw [if_pos c10] at H
      have c10b0 := eq_true c10
      have c10b1 : decide (0 ≤ x7_1) = true := zW c10
      clear c10
      by_cases c11 : x7_1 ≤ (wrap64 (x7_1 + 1))
      rotate_left
      ·rw [if_neg c11] at H
       exact absurd H (by simp)
      rw [if_pos c11] at H
      have c11b0 := eq_true c11
      have c11b1 : decide (x7_1 ≤ (wrap64 (x7_1 + 1))) = true := zW c11
      by_cases c12 : (wrap64 (x7_1 + 1)) ≤ (a1.size : Int)
      rotate_left
      ·rw [if_neg c12] at H
       exact absurd H (by simp)
      rw [if_pos c12] at H
      have c12b0 := eq_true c12
      have c12b1 : decide ((wrap64 (x7_1 + 1)) ≤ (a1.size : Int)) = true := zW c12
      by_cases c13 : x277000_1.size + (((wrap64 (x7_1 + 1)) : Int).toNat - (x7_1 : Int).toNat) ≤ 9223372036854775807
      rotate_left
      ·rw [if_neg c13] at H
       exact absurd H (by simp)
      rw [if_pos c13] at H
      have c13b0 := eq_true c13
      have c13b1 : decide (x277000_1.size + (((wrap64 (x7_1 + 1)) : Int).toNat - (x7_1 : Int).toNat) ≤ 9223372036854775807) = true := zW c13
      try have c13b2 : (9223372036854775807 < x277000_1.size + (((wrap64 (x7_1 + 1)) : Int).toNat - (x7_1 : Int).toNat)) = False := eq_false (Nat.not_lt.2 c13)
      replace H := Option.bind_eq_some_iff.mp H
      obtain ⟨⟨t278, t279⟩, A140, H⟩ := H
      replace H : (if t279 = 0 then (if t278 > 0 then (if ((x277000_1.size : Int) + ((((wrap64 (x7_1 + 1)) : Int).toNat - (x7_1 : Int).toNat : Nat) : Int)) = t278 then ((ref08_Get.f (x277000_1 ++ (a1.extract (x7_1 : Int).toNat ((wrap64 (x7_1 + 1)) : Int).toNat))).bind fun bt280 => (if x6_1.length < 4398046511104 then (ref09_Push.l0 kj4 a1 (x6_1 ++ [(⟨bt280.1, bt280.2.1, bt280.2.2.1⟩ : S38)]) (wrap64 (x7_1 + 1)) (⟨#[]⟩ : ByteArray) x277001_1) else (none))) else (ref09_Push.l0 kj4 a1 x6_1 (wrap64 (x7_1 + 1)) (x277000_1 ++ (a1.extract (x7_1 : Int).toNat ((wrap64 (x7_1 + 1)) : Int).toNat)) x277001_1)) else (ref09_Push.l0 kj4 a1 x6_1 (wrap64 (x7_1 + 1)) (x277000_1 ++ (a1.extract (x7_1 : Int).toNat ((wrap64 (x7_1 + 1)) : Int).toNat)) x277001_1)) else (ref09_Push.l0 kj4 a1 x6_1 (wrap64 (x7_1 + 1)) (⟨#[]⟩ : ByteArray) true)) = some (r1, r2, r3) := H
      have A14 := Aside0.mk A140
      clear A140
      by_cases c15 : t279 = 0
      ·rw [if_pos c15] at H
       have c15b0 : (t279 == 0) = true := beq_iff_eq.mpr c15
       have c15b1 : (t279 != 0) = false := bne_eq_false_iff_eq.mpr c15
       clear c15
       by_cases c16 : t278 > 0
       ·rw [if_pos c16] at H
        have c16b0 : decide (0 < t278) = true := zW c16
        clear c16
        by_cases c17 : ((x277000_1.size : Int) + ((((wrap64 (x7_1 + 1)) : Int).toNat - (x7_1 : Int).toNat : Nat) : Int)) = t278
        ·rw [if_pos c17] at H
         have c17b0 : (((x277000_1.size : Int) + ((((wrap64 (x7_1 + 1)) : Int).toNat - (x7_1 : Int).toNat : Nat) : Int)) == t278) = true := beq_iff_eq.mpr c17
         have c17b1 : (((x277000_1.size : Int) + ((((wrap64 (x7_1 + 1)) : Int).toNat - (x7_1 : Int).toNat : Nat) : Int)) != t278) = false := bne_eq_false_iff_eq.mpr c17
         clear c17
         replace H := Option.bind_eq_some_iff.mp H
         obtain ⟨⟨t280, t281, t282, t283⟩, A180, H⟩ := H
         replace H : (if x6_1.length < 4398046511104 then (ref09_Push.l0 kj4 a1 (x6_1 ++ [(⟨t280, t281, t282⟩ : S38)]) (wrap64 (x7_1 + 1)) (⟨#[]⟩ : ByteArray) x277001_1) else (none)) = some (r1, r2, r3) := H
         have A18 := Aside0.mk A180
         clear A180
         by_cases c19 : x6_1.length < 4398046511104
         rotate_left
         ·rw [if_neg c19] at H
          exact absurd H (by simp)
         rw [if_pos c19] at H
         have LMc19 := Aside0.mk c19
         clear c19
         obtain ⟨y285, hy285⟩ : ∃ y_ : List (S38), y_ = (x6_1 ++ [(⟨t280, t281, t282⟩ : S38)]) := ⟨_, rfl⟩
         replace H : (ref09_Push.l0 kj4 a1 y285 (wrap64 (x7_1 + 1)) (⟨#[]⟩ : ByteArray) x277001_1) = some (r1, r2, r3) := by first | (rw [hy285]; with_reducible exact H) | (have H2_ := (Option.bind_some _ _).symm.trans H; rw [hy285]; with_reducible exact H2_) | (have H2_ := (Option.bind_some _ _).symm.trans H; with_reducible exact H2_) | with_reducible exact H | (rw [hy285]; exact H) | exact H
         have Ny285 := Aside0.mk hy285
         clear hy285
         have H' := Aside0.mk H
         clear H
         try go_wp2
         have n0_ := Aside0.mk (zZ HO_6.out)
         have n1_ := Aside0.mk (zI BK276.out)
         have n2_ := Aside0.mk (zI BK277.out)
         have n3_ := Aside0.mk (zE HB.out)
         clear HO_6
         clear BK276
         clear BK277
         clear HB
         have HO_6 := n0_
         have BK276 := n1_
         have BK277 := n2_
         have HB := n3_
         clear n0_ n1_ n2_ n3_
         refine start_ (n := 10) (S := fun w' => w'.cell? ⟨gb276, 0, none⟩ = some (.string x277000_1) ∧ w'.cell? ⟨gb276, 1, none⟩ = some (.bool x277001_1)) (ds := [9]) #[false, false, false, false, false, false, false, false, false, false] (by kernel_rfl) rfl rfl ⟨(zK BK276.out 0).trans rfl, (zK BK276.out 1).trans rfl⟩ (fun hHeld => ?_); refine with_tabW ref09_Push.tab5 ref09_Push.bits5 (fun HT_ HW_ => ?_)
         generalize wc.drew = w20 at HO_6 BK276 BK277 HB hHeld ⊢
         refine pure_ (i := 0) (N := some 23) (v := ?_) (a' := ?_) #[true, false, false, false, false, false, false, false, false, false] rfl rfl (any_of HT_.out (by kernel_rfl)) (fun _ _ _ h => h) (Or.inl ⟨by rfl, ?_⟩) ?_ ?_
         rotate_left
         ·intro w'
          go_simp
          with_reducible rfl
         rotate_left
         ·simp only [Act.put, zA, zB, zC, i64_w, i32_w]
          rfl
         refine pure_ (i := 2) (N := some 25) (v := ?_) (a' := ?_) #[true, false, true, false, false, false, false, false, false, false] rfl rfl (any_of HT_.out (by kernel_rfl)) (fun _ _ _ h => h) (Or.inl ⟨by rfl, ?_⟩) ?_ ?_
         rotate_left
         ·intro w'
          go_simp
          with_reducible rfl
         rotate_left
         ·simp only [Act.put, zA, zB, zC, i64_w, i32_w]
          rfl
         refine pure_ (i := 3) (N := some 26) (v := ?_) (a' := ?_) #[true, false, true, true, false, false, false, false, false, false] rfl rfl (any_of HT_.out (by kernel_rfl)) (fun _ _ _ h => h) (Or.inl ⟨by rfl, ?_⟩) ?_ ?_
         rotate_left
         ·intro w'
          go_simp
          with_reducible rfl
         rotate_left
         ·simp only [Act.put, zA, zB, zC, i64_w, i32_w]
          rfl
         refine pure_ (i := 4) (N := some 27) (v := ?_) (a' := ?_) #[true, false, true, true, true, false, false, false, false, false] rfl rfl (any_of HT_.out (by kernel_rfl)) (fun _ _ _ h => h) (Or.inl ⟨by rfl, ?_⟩) ?_ ?_
         rotate_left
         ·intro w'
          go_simp
          with_reducible rfl
         rotate_left
         ·simp only [Act.put, zA, zB, zC, i64_w, i32_w]
          rfl
         refine pure_ (i := 5) (N := some 28) (v := ?_) (a' := ?_) #[true, false, true, true, true, true, false, false, false, false] rfl rfl (any_of HT_.out (by kernel_rfl)) (fun _ _ _ h => h) (Or.inl ⟨by rfl, ?_⟩) ?_ ?_
         rotate_left
         ·intro w'
          go_simp
          with_reducible rfl
         rotate_left
         ·simp only [Act.put, zA, zB, zC, i64_w, i32_w]
          rfl
         refine pure_ (i := 6) (N := some 29) (v := ?_) (a' := ?_) #[true, false, true, true, true, true, true, false, false, false] rfl rfl (any_of HT_.out (by kernel_rfl)) (fun _ _ _ h => h) (Or.inl ⟨by rfl, ?_⟩) ?_ ?_
         rotate_left
         ·intro w'
          go_simp
          with_reducible rfl
         rotate_left
         ·simp only [Act.put, zA, zB, zC, i64_w, i32_w]
          rfl
         refine take_ (i := 1) (N := some 24) (v := ?_) (a' := ?_) #[true, true, true, true, true, true, true, false, false, false] rfl rfl (take_ofW HT_.out HW_.out (by kernel_rfl)) (fun _ _ _ h => h) (Or.inl ⟨by rfl, ?_⟩) hHeld ?_ ?_
         rotate_left
         ·rintro w' ⟨s0, s1⟩
          go_simp
          with_reducible rfl
         rotate_left
         ·simp only [Act.put, zA, zB, zC, i64_w, i32_w]
          rfl
         refine pure_ (i := 7) (N := some 30) (v := ?_) (a' := ?_) #[true, true, true, true, true, true, true, true, false, false] rfl rfl (any_of HT_.out (by kernel_rfl)) (fun _ _ _ h => h) (Or.inl ⟨by rfl, ?_⟩) ?_ ?_
         rotate_left
         ·intro w'
          go_simp
          with_reducible rfl
         rotate_left
         ·simp only [Act.put, zA, zB, zC, i64_w, i32_w]
          rfl
         refine pure_ (i := 8) (N := some 31) (v := ?_) (a' := ?_) #[true, true, true, true, true, true, true, true, true, false] rfl rfl (any_of HT_.out (by kernel_rfl)) (fun _ _ _ h => h) (Or.inl ⟨by rfl, ?_⟩) ?_ ?_
         rotate_left
         ·intro w'
          go_simp
          with_reducible rfl
         rotate_left
         ·simp only [Act.put, zA, zB, zC, i64_w, i32_w]
          rfl
         refine last_ (i := 9) (N := none) #[true, true, true, true, true, true, true, true, true, true] rfl rfl (one_of HT_.out (by kernel_rfl)) (by decide) (fun K hK => ?_)
         have hs21 : w20.cell? ⟨gb276, 0, none⟩ = some (.string x277000_1) := (zK BK276.out 0).trans rfl
         have hfs21 := zL BK276.out 0
         have hns21_1 := NB277_276.out
         have hms21_1 := NB276_277.out
         refine skip_ (w1 := ?_) (by rfl) rfl ?_ ?_
         rotate_left
         ·go_simp
          rfl
         refine hK.out _ _ ?_
         clear hK K
         refine done_ (done_of HT_.out (by kernel_rfl)) ?_
         have hnb22 := NB276_277.out
         have hnc22 := NB277_276.out
         have hcz23_0 : w20.cell? ⟨gb276, 0, none⟩ = some (.string x277000_1) := (zK BK276.out 0).trans rfl
         have hcz23_1 : w20.cell? ⟨gb276, 1, none⟩ = some (.bool x277001_1) := (zK BK276.out 1).trans rfl
         have hfz23_0 := zL BK276.out 0
         have hfz23_1 := zL BK276.out 1
         try go_wp2_with (first | ((with_reducible refine gate_callee (f := 40) rfl ?_); refine goesL_ (some 35) rfl rfl Try.func40 (by kernel_rfl) rfl #[.string (x277000_1 ++ (a1.extract (x7_1 : Int).toNat ((wrap64 (x7_1 + 1)) : Int).toNat))] rfl (by (try simp only [zO, zP, zQ]); first | done | rfl | (simp only [zS, zR]; rfl)) ?_; (with_reducible refine (ref08_Need.calls (x277000_1 ++ (a1.extract (x7_1 : Int).toNat ((wrap64 (x7_1 + 1)) : Int).toNat)) t278 t279 _ A14.out).mono ?_); rintro e w' ⟨rfl, ⟨nd, rfl⟩⟩; refine ⟨_, rfl, ?_⟩) | ((with_reducible refine gate_callee (f := 41) rfl ?_); refine goesL_ (some 53) rfl rfl Try.func41 (by kernel_rfl) rfl #[.string (x277000_1 ++ (a1.extract (x7_1 : Int).toNat ((wrap64 (x7_1 + 1)) : Int).toNat))] rfl (by (try simp only [zO, zP, zQ]); first | done | rfl | (simp only [zS, zR]; rfl)) ?_; (with_reducible refine (ref08_Get.calls (x277000_1 ++ (a1.extract (x7_1 : Int).toNat ((wrap64 (x7_1 + 1)) : Int).toNat)) t280 t281 t282 t283 _ A18.out).mono ?_); rintro e w24 ⟨rfl, hb⟩; refine ⟨_, rfl, ?_⟩; have n0_ := Aside0.mk (Kd.R_below (by (with_reducible repeat (first | apply zY | apply zX | apply zZ)); exact (Kd.R_mono (Kd.R_far (p := ⟨gb276, 0, none⟩) (Kd.R_types HO_6.out BK276.out (by decide)) (fun _ hk => hk.2) (.string (x277000_1 ++ (a1.extract (x7_1 : Int).toNat ((wrap64 (x7_1 + 1)) : Int).toNat)))) (fun _ h_ => h_.1))) hb); have n1_ := Aside0.mk (blk_below (g := gb276) (o := .cells #[.string (x277000_1 ++ (a1.extract (x7_1 : Int).toNat ((wrap64 (x7_1 + 1)) : Int).toNat)), .bool x277001_1] 59 (0, 0)) (by (with_reducible repeat (first | refine zH ?_ _ | refine zI ?_ | refine zG ?_ _)); refine blk_put (cs := #[.string x277000_1, .bool x277001_1]) ?_ 0 _ rfl; (with_reducible repeat (first | refine zH ?_ _ | refine zI ?_ | refine zG ?_ _)); exact BK276.out) hb); have n2_ := Aside0.mk (blk_below (g := gb277) (o := .cells #[.string (⟨#[]⟩ : ByteArray), .bool false] 59 (0, 0)) (by (with_reducible repeat (first | refine zH ?_ _ | refine zI ?_ | refine zG ?_ _)); refine blk_far ?_ NB277_276.out _; (with_reducible repeat (first | refine zH ?_ _ | refine zI ?_ | refine zG ?_ _)); exact BK277.out) hb); have n3_ := Aside0.mk (zU (by repeat (first | (with_reducible first | exact HB.out | apply zF | apply zD | apply zE | refine zJ ?_ GE276.out | refine zJ ?_ GE277.out) | exact HB.out)) hb); clear HO_6; clear BK276; clear BK277; clear HB; have HO_6 := n0_; have BK276 := n1_; have BK277 := n2_; have HB := n3_; clear n0_ n1_ n2_ n3_; (try clear hb); (try clear hb2); (try clear hk); (try clear hi)) | ((with_reducible refine gate_dst (N := 10) rfl ?_); (try (refine gate_guard (by rfl) ?_; dsimp only)); refine box_event ?hg (N := 10) ?hd (cs := #[.int .i64 0, .int .i64 0, .string (⟨#[]⟩ : ByteArray)]) (t := 38) ?hr ?_; (case hd => rfl); (case hg => rfl); (case hr => first | (go_simp; done) | (go_simp; rfl)); intro gb284 hg w25 hbox hb; have n0_ := Aside0.mk (Kd.R_below (Kd.R_elderB (by (with_reducible repeat (first | apply zY | apply zX | apply zZ)); exact HO_6.out) gb284 (Nat.le_of_eq hg.symm)) hb); have n1_ := Aside0.mk (blk_below (g := gb276) (o := .cells #[.string (x277000_1 ++ (a1.extract (x7_1 : Int).toNat ((wrap64 (x7_1 + 1)) : Int).toNat)), .bool x277001_1] 59 (0, 0)) (by (with_reducible repeat (first | refine zH ?_ _ | refine zI ?_ | refine zG ?_ _)); exact BK276.out) hb); have n2_ := Aside0.mk (blk_below (g := gb277) (o := .cells #[.string (⟨#[]⟩ : ByteArray), .bool false] 59 (0, 0)) (by (with_reducible repeat (first | refine zH ?_ _ | refine zI ?_ | refine zG ?_ _)); exact BK277.out) hb); have n3_ := Aside0.mk (zU (by repeat (first | (with_reducible first | exact HB.out | apply zF | apply zD | apply zE | refine zJ ?_ GE276.out | refine zJ ?_ GE277.out) | exact HB.out)) hb); have n4_ := Aside0.mk (hbox); have n5_ := Aside0.mk ((by rw [hg]; exact (zT (by repeat (first | (with_reducible first | exact HB.out | apply zF | apply zD | apply zE | refine zJ ?_ GE276.out | refine zJ ?_ GE277.out) | exact HB.out))) : w.heap.size ≤ gb284)); have n6_ := Aside0.mk ((by rw [hg]; exact (zT (by repeat (first | (with_reducible first | exact HB.out | apply zF | apply zD | apply zE | refine zJ ?_ GE276.out | refine zJ ?_ GE277.out) | exact HB.out))) : w.heap.size ≤ gb284)); have n7_ := Aside0.mk ((by rw [hg]; exact Nat.ne_of_lt (blk_lt (g := gb276) (o := .cells #[.string (x277000_1 ++ (a1.extract (x7_1 : Int).toNat ((wrap64 (x7_1 + 1)) : Int).toNat)), .bool x277001_1] 59 (0, 0)) (by (with_reducible repeat (first | refine zH ?_ _ | refine zI ?_ | refine zG ?_ _)); exact BK276.out)) : gb276 ≠ gb284)); have n8_ := Aside0.mk ((by rw [hg]; exact Nat.ne_of_gt (blk_lt (g := gb276) (o := .cells #[.string (x277000_1 ++ (a1.extract (x7_1 : Int).toNat ((wrap64 (x7_1 + 1)) : Int).toNat)), .bool x277001_1] 59 (0, 0)) (by (with_reducible repeat (first | refine zH ?_ _ | refine zI ?_ | refine zG ?_ _)); exact BK276.out)) : gb284 ≠ gb276)); have n9_ := Aside0.mk ((by rw [hg]; exact Nat.ne_of_lt (blk_lt (g := gb277) (o := .cells #[.string (⟨#[]⟩ : ByteArray), .bool false] 59 (0, 0)) (by (with_reducible repeat (first | refine zH ?_ _ | refine zI ?_ | refine zG ?_ _)); exact BK277.out)) : gb277 ≠ gb284)); have n10_ := Aside0.mk ((by rw [hg]; exact Nat.ne_of_gt (blk_lt (g := gb277) (o := .cells #[.string (⟨#[]⟩ : ByteArray), .bool false] 59 (0, 0)) (by (with_reducible repeat (first | refine zH ?_ _ | refine zI ?_ | refine zG ?_ _)); exact BK277.out)) : gb284 ≠ gb277)); clear HO_6; clear BK276; clear BK277; clear HB; have HO_6 := n0_; have BK276 := n1_; have BK277 := n2_; have HB := n3_; have BK284 := n4_; have GW284 := n5_; have GE284 := n6_; have NB276_284 := n7_; have NB284_276 := n8_; have NB277_284 := n9_; have NB284_277 := n10_; clear n0_ n1_ n2_ n3_ n4_ n5_ n6_ n7_ n8_ n9_ n10_; clear hb hbox hg; have hnb26 := NB284_276.out; have hnc26 := NB276_284.out; have hnb27 := NB284_277.out; have hnc27 := NB277_284.out; have hcz28_0 : w25.cell? ⟨gb284, 0, none⟩ = some (.int .i64 0) := (zK BK284.out 0).trans rfl; have hcz28_1 : w25.cell? ⟨gb284, 1, none⟩ = some (.int .i64 0) := (zK BK284.out 1).trans rfl; have hcz28_2 : w25.cell? ⟨gb284, 2, none⟩ = some (.string (⟨#[]⟩ : ByteArray)) := (zK BK284.out 2).trans rfl; have hfz28_0 := zL BK284.out 0; have hfz28_1 := zL BK284.out 1; have hfz28_2 := zL BK284.out 2) | ((with_reducible refine gate_builtin (b := .append) (xs := #[.tmp 56, .tmp 58]) rfl ?_); (try (refine gate_guard (by rfl) ?_; dsimp only)); at_builtin; refine Kd.R_append k38 (w0 := w) w.heap.size rfl (.tmp 56) (.tmp 58) 34 38 (.agg #[(.int .i64 0), (.int .i64 0), (.string ⟨#[]⟩)]) 32 rfl Try.underlying34 info38 rfl (by decide) (by omega) u6 x6_1 (⟨t280, t281, t282⟩ : S38) [.int .i64 t280, .int .i64 t281, .string t282] (fun k_ => k_ ≠ gb284) (fun _ => False) rfl (by first | (go_simp; done) | (go_simp; rfl)) ?aP (fun _ hk => hk.elim) ?aF ?aO ?aB ?aS ?aL ?_; (case aP => exact k38_mkM _ _ _ (⟨t280, t281, t282⟩ : S38)); (case aB => exact (by repeat (first | (with_reducible first | exact HB.out | apply zF | apply zD | apply zE | refine zJ ?_ GE276.out | refine zJ ?_ GE277.out | refine zJ ?_ GE284.out) | exact HB.out))); (case aF => exact (fun k_ hk => Kd.freshB (g := gb284) (o := .cells #[.int .i64 t280, .int .i64 t281, .string t282] 38 (0, 0)) (by (with_reducible repeat (first | refine zH ?_ _ | refine zI ?_ | refine zG ?_ _)); refine blk_put (cs := #[.int .i64 t280, .int .i64 t281, .string (⟨#[]⟩ : ByteArray)]) ?_ 2 _ rfl; (with_reducible repeat (first | refine zH ?_ _ | refine zI ?_ | refine zG ?_ _)); refine blk_put (cs := #[.int .i64 t280, .int .i64 0, .string (⟨#[]⟩ : ByteArray)]) ?_ 1 _ rfl; (with_reducible repeat (first | refine zH ?_ _ | refine zI ?_ | refine zG ?_ _)); refine blk_put (cs := #[.int .i64 0, .int .i64 0, .string (⟨#[]⟩ : ByteArray)]) ?_ 0 _ rfl; (with_reducible repeat (first | refine zH ?_ _ | refine zI ?_ | refine zG ?_ _)); exact BK284.out) k_ hk)); (case aO => exact (by (with_reducible repeat (first | apply zY | apply zX | apply zZ)); exact Kd.R_mono (Kd.R_far (p := ⟨gb284, 2, none⟩) (Kd.R_far (p := ⟨gb284, 1, none⟩) (Kd.R_far (p := ⟨gb284, 0, none⟩) (Kd.R_mono HO_6.out (fun k_ hk => (⟨hk, hk.2⟩ : _ ∧ k_ ≠ gb284))) (fun _ hk => hk.2) (.int .i64 t280)) (fun _ hk => hk.2) (.int .i64 t281)) (fun _ hk => hk.2) (.string t282)) (fun _ hk => hk.1.2))); (case aS => exact (zT (by repeat (first | (with_reducible first | exact HB.out | apply zF | apply zD | apply zE | refine zJ ?_ GE276.out | refine zJ ?_ GE277.out | refine zJ ?_ GE284.out) | exact HB.out)))); (case aL => have := LMc19.out; omega); intro v286 w29 ho hb hg hat; rw [← Ny285.out] at ho; have n0_ := Aside0.mk (blk_grown (g := gb276) (o := .cells #[.string (x277000_1 ++ (a1.extract (x7_1 : Int).toNat ((wrap64 (x7_1 + 1)) : Int).toNat)), .bool x277001_1] 59 (0, 0)) (by (with_reducible repeat (first | refine zH ?_ _ | refine zI ?_ | refine zG ?_ _)); refine blk_far ?_ NB276_284.out _; (with_reducible repeat (first | refine zH ?_ _ | refine zI ?_ | refine zG ?_ _)); refine blk_far ?_ NB276_284.out _; (with_reducible repeat (first | refine zH ?_ _ | refine zI ?_ | refine zG ?_ _)); refine blk_far ?_ NB276_284.out _; (with_reducible repeat (first | refine zH ?_ _ | refine zI ?_ | refine zG ?_ _)); exact BK276.out) hg (Kd.R_ne HO_6.out BK276.out (by decide))); have n1_ := Aside0.mk (blk_grown (g := gb277) (o := .cells #[.string (⟨#[]⟩ : ByteArray), .bool false] 59 (0, 0)) (by (with_reducible repeat (first | refine zH ?_ _ | refine zI ?_ | refine zG ?_ _)); refine blk_far ?_ NB277_284.out _; (with_reducible repeat (first | refine zH ?_ _ | refine zI ?_ | refine zG ?_ _)); refine blk_far ?_ NB277_284.out _; (with_reducible repeat (first | refine zH ?_ _ | refine zI ?_ | refine zG ?_ _)); refine blk_far ?_ NB277_284.out _; (with_reducible repeat (first | refine zH ?_ _ | refine zI ?_ | refine zG ?_ _)); exact BK277.out) hg (Kd.R_ne HO_6.out BK277.out (by decide))); have n2_ := Aside0.mk (blk_grown (g := gb284) (o := .cells #[.int .i64 t280, .int .i64 t281, .string t282] 38 (0, 0)) (by (with_reducible repeat (first | refine zH ?_ _ | refine zI ?_ | refine zG ?_ _)); refine blk_put (cs := #[.int .i64 t280, .int .i64 t281, .string (⟨#[]⟩ : ByteArray)]) ?_ 2 _ rfl; (with_reducible repeat (first | refine zH ?_ _ | refine zI ?_ | refine zG ?_ _)); refine blk_put (cs := #[.int .i64 t280, .int .i64 0, .string (⟨#[]⟩ : ByteArray)]) ?_ 1 _ rfl; (with_reducible repeat (first | refine zH ?_ _ | refine zI ?_ | refine zG ?_ _)); refine blk_put (cs := #[.int .i64 0, .int .i64 0, .string (⟨#[]⟩ : ByteArray)]) ?_ 0 _ rfl; (with_reducible repeat (first | refine zH ?_ _ | refine zI ?_ | refine zG ?_ _)); exact BK284.out) hg (Kd.R_away HO_6.out (fun _ hk => hk.2))); have n3_ := Aside0.mk (hb); have n4_ := Aside0.mk (ho); clear BK276; clear BK277; clear BK284; clear HB; clear HO_6; have BK276 := n0_; have BK277 := n1_; have BK284 := n2_; have HB := n3_; have HO287 := n4_; clear n0_ n1_ n2_ n3_ n4_; clear ho hb hg hat; have hcz30_0 : w29.cell? ⟨gb276, 0, none⟩ = some (.string (x277000_1 ++ (a1.extract (x7_1 : Int).toNat ((wrap64 (x7_1 + 1)) : Int).toNat))) := (zK BK276.out 0).trans rfl; have hcz30_1 : w29.cell? ⟨gb276, 1, none⟩ = some (.bool x277001_1) := (zK BK276.out 1).trans rfl; have hfz30_0 := zL BK276.out 0; have hfz30_1 := zL BK276.out 1))
         go_roundg kj4
         case measure => have := HK1.out; have := HJ4.out; omega
         case rel => exact ⟨(y285), (wrap64 (x7_1 + 1)), ((⟨#[]⟩ : ByteArray)), (x277001_1), (by first | rfl | (simp; done) | (simp [*]; done) | (simp [bne_nil_]; done)), H', ⟨by have := HK1.out; have := HJ4.out; omega⟩, ⟨by (with_reducible repeat (first | apply zY | apply zX | apply zZ)); exact Kd.R_mono (Kd.R_far (p := ⟨gb276, 0, none⟩) (Kd.R_types HO287.out BK276.out (by decide)) (fun _ hk => hk.2) (.string (⟨#[]⟩ : ByteArray))) (fun _ hk => trivial)⟩, ⟨by (with_reducible repeat (first | refine zH ?_ _ | refine zI ?_ | refine zG ?_ _)); refine blk_put (cs := #[.string (x277000_1 ++ (a1.extract (x7_1 : Int).toNat ((wrap64 (x7_1 + 1)) : Int).toNat)), .bool x277001_1]) ?_ 0 _ rfl; (with_reducible repeat (first | refine zH ?_ _ | refine zI ?_ | refine zG ?_ _)); exact BK276.out⟩, ⟨by (with_reducible repeat (first | refine zH ?_ _ | refine zI ?_ | refine zG ?_ _)); refine blk_far ?_ NB277_276.out _; (with_reducible repeat (first | refine zH ?_ _ | refine zI ?_ | refine zG ?_ _)); exact BK277.out⟩, ⟨by repeat (first | (with_reducible first | exact HB.out | apply zF | apply zD | apply zE | refine zJ ?_ GE276.out | refine zJ ?_ GE277.out | refine zJ ?_ GE284.out) | exact HB.out)⟩⟩
        ·rw [if_neg c17] at H
         have c17b0 : (((x277000_1.size : Int) + ((((wrap64 (x7_1 + 1)) : Int).toNat - (x7_1 : Int).toNat : Nat) : Int)) == t278) = false := beq_eq_false_iff_ne.mpr c17
         have c17b1 : (((x277000_1.size : Int) + ((((wrap64 (x7_1 + 1)) : Int).toNat - (x7_1 : Int).toNat : Nat) : Int)) != t278) = true := bne_iff_ne.mpr c17
         have H' := Aside0.mk H
         clear H
         try go_wp2
         have n0_ := Aside0.mk (zZ HO_6.out)
         have n1_ := Aside0.mk (zI BK276.out)
         have n2_ := Aside0.mk (zI BK277.out)
         have n3_ := Aside0.mk (zE HB.out)
         clear HO_6
         clear BK276
         clear BK277
         clear HB
         have HO_6 := n0_
         have BK276 := n1_
         have BK277 := n2_
         have HB := n3_
         clear n0_ n1_ n2_ n3_
         refine start_ (n := 10) (S := fun w' => w'.cell? ⟨gb276, 0, none⟩ = some (.string x277000_1) ∧ w'.cell? ⟨gb276, 1, none⟩ = some (.bool x277001_1)) (ds := [9]) #[false, false, false, false, false, false, false, false, false, false] (by kernel_rfl) rfl rfl ⟨(zK BK276.out 0).trans rfl, (zK BK276.out 1).trans rfl⟩ (fun hHeld => ?_); refine with_tabW ref09_Push.tab5 ref09_Push.bits5 (fun HT_ HW_ => ?_)
         generalize wc.drew = w31 at HO_6 BK276 BK277 HB hHeld ⊢
         refine pure_ (i := 0) (N := some 23) (v := ?_) (a' := ?_) #[true, false, false, false, false, false, false, false, false, false] rfl rfl (any_of HT_.out (by kernel_rfl)) (fun _ _ _ h => h) (Or.inl ⟨by rfl, ?_⟩) ?_ ?_
         rotate_left
         ·intro w'
          go_simp
          with_reducible rfl
         rotate_left
         ·simp only [Act.put, zA, zB, zC, i64_w, i32_w]
          rfl
         refine pure_ (i := 2) (N := some 25) (v := ?_) (a' := ?_) #[true, false, true, false, false, false, false, false, false, false] rfl rfl (any_of HT_.out (by kernel_rfl)) (fun _ _ _ h => h) (Or.inl ⟨by rfl, ?_⟩) ?_ ?_
         rotate_left
         ·intro w'
          go_simp
          with_reducible rfl
         rotate_left
         ·simp only [Act.put, zA, zB, zC, i64_w, i32_w]
          rfl
         refine pure_ (i := 3) (N := some 26) (v := ?_) (a' := ?_) #[true, false, true, true, false, false, false, false, false, false] rfl rfl (any_of HT_.out (by kernel_rfl)) (fun _ _ _ h => h) (Or.inl ⟨by rfl, ?_⟩) ?_ ?_
         rotate_left
         ·intro w'
          go_simp
          with_reducible rfl
         rotate_left
         ·simp only [Act.put, zA, zB, zC, i64_w, i32_w]
          rfl
         refine pure_ (i := 4) (N := some 27) (v := ?_) (a' := ?_) #[true, false, true, true, true, false, false, false, false, false] rfl rfl (any_of HT_.out (by kernel_rfl)) (fun _ _ _ h => h) (Or.inl ⟨by rfl, ?_⟩) ?_ ?_
         rotate_left
         ·intro w'
          go_simp
          with_reducible rfl
         rotate_left
         ·simp only [Act.put, zA, zB, zC, i64_w, i32_w]
          rfl
         refine pure_ (i := 5) (N := some 28) (v := ?_) (a' := ?_) #[true, false, true, true, true, true, false, false, false, false] rfl rfl (any_of HT_.out (by kernel_rfl)) (fun _ _ _ h => h) (Or.inl ⟨by rfl, ?_⟩) ?_ ?_
         rotate_left
         ·intro w'
          go_simp
          with_reducible rfl
         rotate_left
         ·simp only [Act.put, zA, zB, zC, i64_w, i32_w]
          rfl
         refine pure_ (i := 6) (N := some 29) (v := ?_) (a' := ?_) #[true, false, true, true, true, true, true, false, false, false] rfl rfl (any_of HT_.out (by kernel_rfl)) (fun _ _ _ h => h) (Or.inl ⟨by rfl, ?_⟩) ?_ ?_
         rotate_left
         ·intro w'
          go_simp
          with_reducible rfl
         rotate_left
         ·simp only [Act.put, zA, zB, zC, i64_w, i32_w]
          rfl
         refine take_ (i := 1) (N := some 24) (v := ?_) (a' := ?_) #[true, true, true, true, true, true, true, false, false, false] rfl rfl (take_ofW HT_.out HW_.out (by kernel_rfl)) (fun _ _ _ h => h) (Or.inl ⟨by rfl, ?_⟩) hHeld ?_ ?_
         rotate_left
         ·rintro w' ⟨s0, s1⟩
          go_simp
          with_reducible rfl
         rotate_left
         ·simp only [Act.put, zA, zB, zC, i64_w, i32_w]
          rfl
         refine pure_ (i := 7) (N := some 30) (v := ?_) (a' := ?_) #[true, true, true, true, true, true, true, true, false, false] rfl rfl (any_of HT_.out (by kernel_rfl)) (fun _ _ _ h => h) (Or.inl ⟨by rfl, ?_⟩) ?_ ?_
         rotate_left
         ·intro w'
          go_simp
          with_reducible rfl
         rotate_left
         ·simp only [Act.put, zA, zB, zC, i64_w, i32_w]
          rfl
         refine pure_ (i := 8) (N := some 31) (v := ?_) (a' := ?_) #[true, true, true, true, true, true, true, true, true, false] rfl rfl (any_of HT_.out (by kernel_rfl)) (fun _ _ _ h => h) (Or.inl ⟨by rfl, ?_⟩) ?_ ?_
         rotate_left
         ·intro w'
          go_simp
          with_reducible rfl
         rotate_left
         ·simp only [Act.put, zA, zB, zC, i64_w, i32_w]
          rfl
         refine last_ (i := 9) (N := none) #[true, true, true, true, true, true, true, true, true, true] rfl rfl (one_of HT_.out (by kernel_rfl)) (by decide) (fun K hK => ?_)
         have hs32 : w31.cell? ⟨gb276, 0, none⟩ = some (.string x277000_1) := (zK BK276.out 0).trans rfl
         have hfs32 := zL BK276.out 0
         have hns32_1 := NB277_276.out
         have hms32_1 := NB276_277.out
         refine skip_ (w1 := ?_) (by rfl) rfl ?_ ?_
         rotate_left
         ·go_simp
          rfl
         refine hK.out _ _ ?_
         clear hK K
         refine done_ (done_of HT_.out (by kernel_rfl)) ?_
         have hnb33 := NB276_277.out
         have hnc33 := NB277_276.out
         have hcz34_0 : w31.cell? ⟨gb276, 0, none⟩ = some (.string x277000_1) := (zK BK276.out 0).trans rfl
         have hcz34_1 : w31.cell? ⟨gb276, 1, none⟩ = some (.bool x277001_1) := (zK BK276.out 1).trans rfl
         have hfz34_0 := zL BK276.out 0
         have hfz34_1 := zL BK276.out 1
         try go_wp2_with (first | ((with_reducible refine gate_callee (f := 40) rfl ?_); refine goesL_ (some 35) rfl rfl Try.func40 (by kernel_rfl) rfl #[.string (x277000_1 ++ (a1.extract (x7_1 : Int).toNat ((wrap64 (x7_1 + 1)) : Int).toNat))] rfl (by (try simp only [zO, zP, zQ]); first | done | rfl | (simp only [zS, zR]; rfl)) ?_; (with_reducible refine (ref08_Need.calls (x277000_1 ++ (a1.extract (x7_1 : Int).toNat ((wrap64 (x7_1 + 1)) : Int).toNat)) t278 t279 _ A14.out).mono ?_); rintro e w' ⟨rfl, ⟨nd, rfl⟩⟩; refine ⟨_, rfl, ?_⟩))
         go_roundg kj4
         case measure => have := HK1.out; have := HJ4.out; omega
         case rel => exact ⟨(x6_1), (wrap64 (x7_1 + 1)), (x277000_1 ++ (a1.extract (x7_1 : Int).toNat ((wrap64 (x7_1 + 1)) : Int).toNat)), (x277001_1), (by first | rfl | (simp; done) | (simp [*]; done) | (simp [bne_nil_]; done)), H', ⟨by have := HK1.out; have := HJ4.out; omega⟩, ⟨by (with_reducible repeat (first | apply zY | apply zX | apply zZ)); exact Kd.R_mono (Kd.R_far (p := ⟨gb276, 0, none⟩) (Kd.R_types HO_6.out BK276.out (by decide)) (fun _ hk => hk.2) (.string (x277000_1 ++ (a1.extract (x7_1 : Int).toNat ((wrap64 (x7_1 + 1)) : Int).toNat)))) (fun _ hk => trivial)⟩, ⟨by (with_reducible repeat (first | refine zH ?_ _ | refine zI ?_ | refine zG ?_ _)); refine blk_put (cs := #[.string x277000_1, .bool x277001_1]) ?_ 0 _ rfl; (with_reducible repeat (first | refine zH ?_ _ | refine zI ?_ | refine zG ?_ _)); exact BK276.out⟩, ⟨by (with_reducible repeat (first | refine zH ?_ _ | refine zI ?_ | refine zG ?_ _)); refine blk_far ?_ NB277_276.out _; (with_reducible repeat (first | refine zH ?_ _ | refine zI ?_ | refine zG ?_ _)); exact BK277.out⟩, ⟨by repeat (first | (with_reducible first | exact HB.out | apply zF | apply zD | apply zE | refine zJ ?_ GE276.out | refine zJ ?_ GE277.out) | exact HB.out)⟩⟩
       ·rw [if_neg c16] at H
        have c16b0 : decide (0 < t278) = false := decide_eq_false c16
        clear c16
        have H' := Aside0.mk H
        clear H
        try go_wp2
        have n0_ := Aside0.mk (zZ HO_6.out)
        have n1_ := Aside0.mk (zI BK276.out)
        have n2_ := Aside0.mk (zI BK277.out)
        have n3_ := Aside0.mk (zE HB.out)
        clear HO_6
        clear BK276
        clear BK277
        clear HB
        have HO_6 := n0_
        have BK276 := n1_
        have BK277 := n2_
        have HB := n3_
        clear n0_ n1_ n2_ n3_
        refine start_ (n := 10) (S := fun w' => w'.cell? ⟨gb276, 0, none⟩ = some (.string x277000_1) ∧ w'.cell? ⟨gb276, 1, none⟩ = some (.bool x277001_1)) (ds := [9]) #[false, false, false, false, false, false, false, false, false, false] (by kernel_rfl) rfl rfl ⟨(zK BK276.out 0).trans rfl, (zK BK276.out 1).trans rfl⟩ (fun hHeld => ?_); refine with_tabW ref09_Push.tab5 ref09_Push.bits5 (fun HT_ HW_ => ?_)
        generalize wc.drew = w35 at HO_6 BK276 BK277 HB hHeld ⊢
        refine pure_ (i := 0) (N := some 23) (v := ?_) (a' := ?_) #[true, false, false, false, false, false, false, false, false, false] rfl rfl (any_of HT_.out (by kernel_rfl)) (fun _ _ _ h => h) (Or.inl ⟨by rfl, ?_⟩) ?_ ?_
        rotate_left
        ·intro w'
         go_simp
         with_reducible rfl
        rotate_left
        ·simp only [Act.put, zA, zB, zC, i64_w, i32_w]
         rfl
        refine pure_ (i := 2) (N := some 25) (v := ?_) (a' := ?_) #[true, false, true, false, false, false, false, false, false, false] rfl rfl (any_of HT_.out (by kernel_rfl)) (fun _ _ _ h => h) (Or.inl ⟨by rfl, ?_⟩) ?_ ?_
        rotate_left
        ·intro w'
         go_simp
         with_reducible rfl
        rotate_left
        ·simp only [Act.put, zA, zB, zC, i64_w, i32_w]
         rfl
        refine pure_ (i := 3) (N := some 26) (v := ?_) (a' := ?_) #[true, false, true, true, false, false, false, false, false, false] rfl rfl (any_of HT_.out (by kernel_rfl)) (fun _ _ _ h => h) (Or.inl ⟨by rfl, ?_⟩) ?_ ?_
        rotate_left
        ·intro w'
         go_simp
         with_reducible rfl
        rotate_left
        ·simp only [Act.put, zA, zB, zC, i64_w, i32_w]
         rfl
        refine pure_ (i := 4) (N := some 27) (v := ?_) (a' := ?_) #[true, false, true, true, true, false, false, false, false, false] rfl rfl (any_of HT_.out (by kernel_rfl)) (fun _ _ _ h => h) (Or.inl ⟨by rfl, ?_⟩) ?_ ?_
        rotate_left
        ·intro w'
         go_simp
         with_reducible rfl
        rotate_left
        ·simp only [Act.put, zA, zB, zC, i64_w, i32_w]
         rfl
        refine pure_ (i := 5) (N := some 28) (v := ?_) (a' := ?_) #[true, false, true, true, true, true, false, false, false, false] rfl rfl (any_of HT_.out (by kernel_rfl)) (fun _ _ _ h => h) (Or.inl ⟨by rfl, ?_⟩) ?_ ?_
        rotate_left
        ·intro w'
         go_simp
         with_reducible rfl
        rotate_left
        ·simp only [Act.put, zA, zB, zC, i64_w, i32_w]
         rfl
        refine pure_ (i := 6) (N := some 29) (v := ?_) (a' := ?_) #[true, false, true, true, true, true, true, false, false, false] rfl rfl (any_of HT_.out (by kernel_rfl)) (fun _ _ _ h => h) (Or.inl ⟨by rfl, ?_⟩) ?_ ?_
        rotate_left
        ·intro w'
         go_simp
         with_reducible rfl
        rotate_left
        ·simp only [Act.put, zA, zB, zC, i64_w, i32_w]
         rfl
        refine take_ (i := 1) (N := some 24) (v := ?_) (a' := ?_) #[true, true, true, true, true, true, true, false, false, false] rfl rfl (take_ofW HT_.out HW_.out (by kernel_rfl)) (fun _ _ _ h => h) (Or.inl ⟨by rfl, ?_⟩) hHeld ?_ ?_
        rotate_left
        ·rintro w' ⟨s0, s1⟩
         go_simp
         with_reducible rfl
        rotate_left
        ·simp only [Act.put, zA, zB, zC, i64_w, i32_w]
         rfl
        refine pure_ (i := 7) (N := some 30) (v := ?_) (a' := ?_) #[true, true, true, true, true, true, true, true, false, false] rfl rfl (any_of HT_.out (by kernel_rfl)) (fun _ _ _ h => h) (Or.inl ⟨by rfl, ?_⟩) ?_ ?_
        rotate_left
        ·intro w'
         go_simp
         with_reducible rfl
        rotate_left
        ·simp only [Act.put, zA, zB, zC, i64_w, i32_w]
         rfl
        refine pure_ (i := 8) (N := some 31) (v := ?_) (a' := ?_) #[true, true, true, true, true, true, true, true, true, false] rfl rfl (any_of HT_.out (by kernel_rfl)) (fun _ _ _ h => h) (Or.inl ⟨by rfl, ?_⟩) ?_ ?_
        rotate_left
        ·intro w'
         go_simp
         with_reducible rfl
        rotate_left
        ·simp only [Act.put, zA, zB, zC, i64_w, i32_w]
         rfl
        refine last_ (i := 9) (N := none) #[true, true, true, true, true, true, true, true, true, true] rfl rfl (one_of HT_.out (by kernel_rfl)) (by decide) (fun K hK => ?_)
        have hs36 : w35.cell? ⟨gb276, 0, none⟩ = some (.string x277000_1) := (zK BK276.out 0).trans rfl
        have hfs36 := zL BK276.out 0
        have hns36_1 := NB277_276.out
        have hms36_1 := NB276_277.out
        refine skip_ (w1 := ?_) (by rfl) rfl ?_ ?_
        rotate_left
        ·go_simp
         rfl
        refine hK.out _ _ ?_
        clear hK K
        refine done_ (done_of HT_.out (by kernel_rfl)) ?_
        have hnb37 := NB276_277.out
        have hnc37 := NB277_276.out
        have hcz38_0 : w35.cell? ⟨gb276, 0, none⟩ = some (.string x277000_1) := (zK BK276.out 0).trans rfl
        have hcz38_1 : w35.cell? ⟨gb276, 1, none⟩ = some (.bool x277001_1) := (zK BK276.out 1).trans rfl
        have hfz38_0 := zL BK276.out 0
        have hfz38_1 := zL BK276.out 1
        try go_wp2_with (first | ((with_reducible refine gate_callee (f := 40) rfl ?_); refine goesL_ (some 35) rfl rfl Try.func40 (by kernel_rfl) rfl #[.string (x277000_1 ++ (a1.extract (x7_1 : Int).toNat ((wrap64 (x7_1 + 1)) : Int).toNat))] rfl (by (try simp only [zO, zP, zQ]); first | done | rfl | (simp only [zS, zR]; rfl)) ?_; (with_reducible refine (ref08_Need.calls (x277000_1 ++ (a1.extract (x7_1 : Int).toNat ((wrap64 (x7_1 + 1)) : Int).toNat)) t278 t279 _ A14.out).mono ?_); rintro e w' ⟨rfl, ⟨nd, rfl⟩⟩; refine ⟨_, rfl, ?_⟩))
        go_roundg kj4
        case measure => have := HK1.out; have := HJ4.out; omega
        case rel => exact ⟨(x6_1), (wrap64 (x7_1 + 1)), (x277000_1 ++ (a1.extract (x7_1 : Int).toNat ((wrap64 (x7_1 + 1)) : Int).toNat)), (x277001_1), (by first | rfl | (simp; done) | (simp [*]; done) | (simp [bne_nil_]; done)), H', ⟨by have := HK1.out; have := HJ4.out; omega⟩, ⟨by (with_reducible repeat (first | apply zY | apply zX | apply zZ)); exact Kd.R_mono (Kd.R_far (p := ⟨gb276, 0, none⟩) (Kd.R_types HO_6.out BK276.out (by decide)) (fun _ hk => hk.2) (.string (x277000_1 ++ (a1.extract (x7_1 : Int).toNat ((wrap64 (x7_1 + 1)) : Int).toNat)))) (fun _ hk => trivial)⟩, ⟨by (with_reducible repeat (first | refine zH ?_ _ | refine zI ?_ | refine zG ?_ _)); refine blk_put (cs := #[.string x277000_1, .bool x277001_1]) ?_ 0 _ rfl; (with_reducible repeat (first | refine zH ?_ _ | refine zI ?_ | refine zG ?_ _)); exact BK276.out⟩, ⟨by (with_reducible repeat (first | refine zH ?_ _ | refine zI ?_ | refine zG ?_ _)); refine blk_far ?_ NB277_276.out _; (with_reducible repeat (first | refine zH ?_ _ | refine zI ?_ | refine zG ?_ _)); exact BK277.out⟩, ⟨by repeat (first | (with_reducible first | exact HB.out | apply zF | apply zD | apply zE | refine zJ ?_ GE276.out | refine zJ ?_ GE277.out) | exact HB.out)⟩⟩
      ·rw [if_neg c15] at H
       have c15b0 : (t279 == 0) = false := beq_eq_false_iff_ne.mpr c15
       have c15b1 : (t279 != 0) = true := bne_iff_ne.mpr c15
       have H' := Aside0.mk H
       clear H
       try go_wp2
       have n0_ := Aside0.mk (zZ HO_6.out)
       have n1_ := Aside0.mk (zI BK276.out)
       have n2_ := Aside0.mk (zI BK277.out)
       have n3_ := Aside0.mk (zE HB.out)
       clear HO_6
       clear BK276
       clear BK277
       clear HB
       have HO_6 := n0_
       have BK276 := n1_
       have BK277 := n2_
       have HB := n3_
       clear n0_ n1_ n2_ n3_
       refine start_ (n := 10) (S := fun w' => w'.cell? ⟨gb276, 0, none⟩ = some (.string x277000_1) ∧ w'.cell? ⟨gb276, 1, none⟩ = some (.bool x277001_1)) (ds := [9]) #[false, false, false, false, false, false, false, false, false, false] (by kernel_rfl) rfl rfl ⟨(zK BK276.out 0).trans rfl, (zK BK276.out 1).trans rfl⟩ (fun hHeld => ?_); refine with_tabW ref09_Push.tab5 ref09_Push.bits5 (fun HT_ HW_ => ?_)
       generalize wc.drew = w39 at HO_6 BK276 BK277 HB hHeld ⊢
       refine pure_ (i := 0) (N := some 23) (v := ?_) (a' := ?_) #[true, false, false, false, false, false, false, false, false, false] rfl rfl (any_of HT_.out (by kernel_rfl)) (fun _ _ _ h => h) (Or.inl ⟨by rfl, ?_⟩) ?_ ?_
       rotate_left
       ·intro w'
        go_simp
        with_reducible rfl
       rotate_left
       ·simp only [Act.put, zA, zB, zC, i64_w, i32_w]
        rfl
       refine pure_ (i := 2) (N := some 25) (v := ?_) (a' := ?_) #[true, false, true, false, false, false, false, false, false, false] rfl rfl (any_of HT_.out (by kernel_rfl)) (fun _ _ _ h => h) (Or.inl ⟨by rfl, ?_⟩) ?_ ?_
       rotate_left
       ·intro w'
        go_simp
        with_reducible rfl
       rotate_left
       ·simp only [Act.put, zA, zB, zC, i64_w, i32_w]
        rfl
       refine pure_ (i := 3) (N := some 26) (v := ?_) (a' := ?_) #[true, false, true, true, false, false, false, false, false, false] rfl rfl (any_of HT_.out (by kernel_rfl)) (fun _ _ _ h => h) (Or.inl ⟨by rfl, ?_⟩) ?_ ?_
       rotate_left
       ·intro w'
        go_simp
        with_reducible rfl
       rotate_left
       ·simp only [Act.put, zA, zB, zC, i64_w, i32_w]
        rfl
       refine pure_ (i := 4) (N := some 27) (v := ?_) (a' := ?_) #[true, false, true, true, true, false, false, false, false, false] rfl rfl (any_of HT_.out (by kernel_rfl)) (fun _ _ _ h => h) (Or.inl ⟨by rfl, ?_⟩) ?_ ?_
       rotate_left
       ·intro w'
        go_simp
        with_reducible rfl
       rotate_left
       ·simp only [Act.put, zA, zB, zC, i64_w, i32_w]
        rfl
       refine pure_ (i := 5) (N := some 28) (v := ?_) (a' := ?_) #[true, false, true, true, true, true, false, false, false, false] rfl rfl (any_of HT_.out (by kernel_rfl)) (fun _ _ _ h => h) (Or.inl ⟨by rfl, ?_⟩) ?_ ?_
       rotate_left
       ·intro w'
        go_simp
        with_reducible rfl
       rotate_left
       ·simp only [Act.put, zA, zB, zC, i64_w, i32_w]
        rfl
       refine pure_ (i := 6) (N := some 29) (v := ?_) (a' := ?_) #[true, false, true, true, true, true, true, false, false, false] rfl rfl (any_of HT_.out (by kernel_rfl)) (fun _ _ _ h => h) (Or.inl ⟨by rfl, ?_⟩) ?_ ?_
       rotate_left
       ·intro w'
        go_simp
        with_reducible rfl
       rotate_left
       ·simp only [Act.put, zA, zB, zC, i64_w, i32_w]
        rfl
       refine take_ (i := 1) (N := some 24) (v := ?_) (a' := ?_) #[true, true, true, true, true, true, true, false, false, false] rfl rfl (take_ofW HT_.out HW_.out (by kernel_rfl)) (fun _ _ _ h => h) (Or.inl ⟨by rfl, ?_⟩) hHeld ?_ ?_
       rotate_left
       ·rintro w' ⟨s0, s1⟩
        go_simp
        with_reducible rfl
       rotate_left
       ·simp only [Act.put, zA, zB, zC, i64_w, i32_w]
        rfl
       refine pure_ (i := 7) (N := some 30) (v := ?_) (a' := ?_) #[true, true, true, true, true, true, true, true, false, false] rfl rfl (any_of HT_.out (by kernel_rfl)) (fun _ _ _ h => h) (Or.inl ⟨by rfl, ?_⟩) ?_ ?_
       rotate_left
       ·intro w'
        go_simp
        with_reducible rfl
       rotate_left
       ·simp only [Act.put, zA, zB, zC, i64_w, i32_w]
        rfl
       refine pure_ (i := 8) (N := some 31) (v := ?_) (a' := ?_) #[true, true, true, true, true, true, true, true, true, false] rfl rfl (any_of HT_.out (by kernel_rfl)) (fun _ _ _ h => h) (Or.inl ⟨by rfl, ?_⟩) ?_ ?_
       rotate_left
       ·intro w'
        go_simp
        with_reducible rfl
       rotate_left
       ·simp only [Act.put, zA, zB, zC, i64_w, i32_w]
        rfl
       refine last_ (i := 9) (N := none) #[true, true, true, true, true, true, true, true, true, true] rfl rfl (one_of HT_.out (by kernel_rfl)) (by decide) (fun K hK => ?_)
       have hs40 : w39.cell? ⟨gb276, 0, none⟩ = some (.string x277000_1) := (zK BK276.out 0).trans rfl
       have hfs40 := zL BK276.out 0
       have hns40_1 := NB277_276.out
       have hms40_1 := NB276_277.out
       refine skip_ (w1 := ?_) (by rfl) rfl ?_ ?_
       rotate_left
       ·go_simp
        rfl
       refine hK.out _ _ ?_
       clear hK K
       refine done_ (done_of HT_.out (by kernel_rfl)) ?_
       have hnb41 := NB276_277.out
       have hnc41 := NB277_276.out
       have hcz42_0 : w39.cell? ⟨gb276, 0, none⟩ = some (.string x277000_1) := (zK BK276.out 0).trans rfl
       have hcz42_1 : w39.cell? ⟨gb276, 1, none⟩ = some (.bool x277001_1) := (zK BK276.out 1).trans rfl
       have hfz42_0 := zL BK276.out 0
       have hfz42_1 := zL BK276.out 1
       try go_wp2_with (first | ((with_reducible refine gate_callee (f := 40) rfl ?_); refine goesL_ (some 35) rfl rfl Try.func40 (by kernel_rfl) rfl #[.string (x277000_1 ++ (a1.extract (x7_1 : Int).toNat ((wrap64 (x7_1 + 1)) : Int).toNat))] rfl (by (try simp only [zO, zP, zQ]); first | done | rfl | (simp only [zS, zR]; rfl)) ?_; (with_reducible refine (ref08_Need.calls (x277000_1 ++ (a1.extract (x7_1 : Int).toNat ((wrap64 (x7_1 + 1)) : Int).toNat)) t278 t279 _ A14.out).mono ?_); rintro e w' ⟨rfl, ⟨nd, rfl⟩⟩; refine ⟨_, rfl, ?_⟩))
       go_roundg kj4
       case measure => have := HK1.out; have := HJ4.out; omega
       case rel => exact ⟨(x6_1), (wrap64 (x7_1 + 1)), ((⟨#[]⟩ : ByteArray)), (true), (by first | rfl | (simp; done) | (simp [*]; done) | (simp [bne_nil_]; done)), H', ⟨by have := HK1.out; have := HJ4.out; omega⟩, ⟨by (with_reducible repeat (first | apply zY | apply zX | apply zZ)); exact Kd.R_mono (Kd.R_far (p := ⟨gb276, 1, none⟩) (Kd.R_far (p := ⟨gb276, 0, none⟩) (Kd.R_far (p := ⟨gb276, 0, none⟩) (Kd.R_types HO_6.out BK276.out (by decide)) (fun _ hk => hk.2) (.string (x277000_1 ++ (a1.extract (x7_1 : Int).toNat ((wrap64 (x7_1 + 1)) : Int).toNat)))) (fun _ hk => hk.2) (.string (⟨#[]⟩ : ByteArray))) (fun _ hk => hk.2) (.bool true)) (fun _ hk => trivial)⟩, ⟨by (with_reducible repeat (first | refine zH ?_ _ | refine zI ?_ | refine zG ?_ _)); refine blk_put (cs := #[.string (⟨#[]⟩ : ByteArray), .bool x277001_1]) ?_ 1 _ rfl; (with_reducible repeat (first | refine zH ?_ _ | refine zI ?_ | refine zG ?_ _)); refine blk_put (cs := #[.string (x277000_1 ++ (a1.extract (x7_1 : Int).toNat ((wrap64 (x7_1 + 1)) : Int).toNat)), .bool x277001_1]) ?_ 0 _ rfl; (with_reducible repeat (first | refine zH ?_ _ | refine zI ?_ | refine zG ?_ _)); refine blk_put (cs := #[.string x277000_1, .bool x277001_1]) ?_ 0 _ rfl; (with_reducible repeat (first | refine zH ?_ _ | refine zI ?_ | refine zG ?_ _)); exact BK276.out⟩, ⟨by (with_reducible repeat (first | refine zH ?_ _ | refine zI ?_ | refine zG ?_ _)); refine blk_far ?_ NB277_276.out _; (with_reducible repeat (first | refine zH ?_ _ | refine zI ?_ | refine zG ?_ _)); refine blk_far ?_ NB277_276.out _; (with_reducible repeat (first | refine zH ?_ _ | refine zI ?_ | refine zG ?_ _)); refine blk_far ?_ NB277_276.out _; (with_reducible repeat (first | refine zH ?_ _ | refine zI ?_ | refine zG ?_ _)); exact BK277.out⟩, ⟨by repeat (first | (with_reducible first | exact HB.out | apply zF | apply zD | apply zE | refine zJ ?_ GE276.out | refine zJ ?_ GE277.out) | exact HB.out)⟩⟩
     ·replace c9 := Bool.eq_false_iff.mpr c9
      subst c9
      have H1 : (some (x277000_1, x277001_1, x6_1)) = some (r1, r2, r3) := by rw [if_neg (show ¬ (false = true) by decide)] at H; exact H
      clear H
      have H := H1
      clear H1
      simp only [Option.some.injEq, Prod.mk.injEq] at H
      obtain ⟨rfl, rfl, rfl⟩ := H
      have hnb43 := NB276_277.out
      have hnc43 := NB277_276.out
      have hcz44_0 : wc.cell? ⟨gb276, 0, none⟩ = some (.string x277000_1) := (zK BK276.out 0).trans rfl
      have hcz44_1 : wc.cell? ⟨gb276, 1, none⟩ = some (.bool x277001_1) := (zK BK276.out 1).trans rfl
      have hfz44_0 := zL BK276.out 0
      have hfz44_1 := zL BK276.out 1
      have hcz45_0 : wc.cell? ⟨gb277, 0, none⟩ = some (.string (⟨#[]⟩ : ByteArray)) := (zK BK277.out 0).trans rfl
      have hcz45_1 : wc.cell? ⟨gb277, 1, none⟩ = some (.bool false) := (zK BK277.out 1).trans rfl
      have hfz45_0 := zL BK277.out 0
      have hfz45_1 := zL BK277.out 1
      go_wp2
      refine bodyPost_ret (results_ct rfl _ _ gb277 59 #[.string x277000_1, .bool x277001_1] (0, 0) _ rfl (by (with_reducible repeat (first | refine zH ?_ _ | refine zI ?_ | refine zG ?_ _)); refine blk_put (cs := #[.string x277000_1, .bool false]) ?_ 1 _ rfl; (with_reducible repeat (first | refine zH ?_ _ | refine zI ?_ | refine zG ?_ _)); refine blk_put (cs := #[.string (⟨#[]⟩ : ByteArray), .bool false]) ?_ 0 _ rfl; (with_reducible repeat (first | refine zH ?_ _ | refine zI ?_ | refine zG ?_ _)); exact BK277.out) Try.underlying59 rfl (by kernel_rfl)) rfl ?_
      exact ⟨_, by first | rfl | (simp [errW_none, errW_some] <;> rfl) | (simp [*, errW_none, errW_some] <;> rfl), by (with_reducible repeat (first | apply zY | apply zX | apply zZ)); exact Kd.R_mono (Kd.R_far (p := ⟨gb277, 1, none⟩) (Kd.R_far (p := ⟨gb277, 0, none⟩) (Kd.R_types HO_6.out BK277.out (by decide)) (fun _ hk => hk.2) (.string x277000_1)) (fun _ hk => hk.2) (.bool x277001_1)) (fun _ hk => trivial), by repeat (first | (with_reducible first | exact HB.out | apply zF | apply zD | apply zE | refine zJ ?_ GE276.out | refine zJ ?_ GE277.out) | exact HB.out)⟩

/-! ### ref27_Frames: function 15 -/
def ref27_Frames.f (k : Nat) (l0 : List (S40)) (a1 : Int) (a2 : Int) : Option ((List (S38)) × Bool) := (ref27_Bytes.f k l0 a1 a2).bind fun t288 => ((ref09_Push.f k (⟨#[]⟩ : ByteArray) false t288).bind fun bt289 => (some (bt289.2.2, (bt289.1.toList == ([] : List UInt8) && (!bt289.2.1)))))
theorem ref27_Frames.mono : ∀ a0 a1 a2 k, LeO (ref27_Frames.f k a0 a1 a2) (ref27_Frames.f (k + 1) a0 a1 a2) := by
 intro a0 a1 a2 k
 unfold ref27_Frames.f
 repeat' first
  | (with_reducible exact ref09_Push.mono _ _ _ _)
  | (with_reducible exact ref27_Bytes.mono _ _ _ _)
  | (with_reducible exact LeO.refl _)
  | (with_reducible exact LeO.none _)
  | (with_reducible refine LeO.ite ?_ ?_)
  | (with_reducible refine LeO.bind ?_ (fun _ => ?_))
  | exact ref09_Push.mono _ _ _ _
  | exact ref27_Bytes.mono _ _ _ _
  | exact LeO.none _
  | refine LeO.ite ?_ ?_
  | refine LeO.bind ?_ (fun _ => ?_)
set_option maxHeartbeats 8000000 in
set_option maxRecDepth 100000 in
theorem ref27_Frames.calls (k : Nat) (A0 : Option Addr) (c0 : Nat) (l0 : List (S40)) (a1 : Int) (a2 : Int) (r1 : List (S38)) (r2 : Bool) (w : World) (hr0 : Kd.C k40 w A0 l0.length l0) (hc0 : l0.length ≤ c0) (h : ref27_Frames.f k l0 a1 a2 = some (r1, r2)) :
 Calls Try.prog 15 #[.slice A0 l0.length c0, .int .i64 a1, .int .i64 a2] w fun e w' => ∃ v0_ : Value, e = .returned (.tuple #[v0_, .bool r2]) ∧ Kd.R k38 38 w' w.heap.size (fun _ => True) v0_ r1 ∧ Below w.heap.size w w' := by
 have hu59 := Try.underlying59
 have HR0 := Aside0.mk hr0
 have HC0 := Aside0.mk hc0
 clear hr0 hc0
 have HB := Aside0.mk (Below.refl w.heap.size w)
 have H : ((ref27_Bytes.f k l0 a1 a2).bind fun t288 => ((ref09_Push.f k (⟨#[]⟩ : ByteArray) false t288).bind fun bt289 => (some (bt289.2.2, (bt289.1.toList == ([] : List UInt8) && (!bt289.2.1)))))) = some (r1, r2) := h
 clear h
 replace H := Option.bind_eq_some_iff.mp H
 obtain ⟨t288, A40, H⟩ := H
 replace H : ((ref09_Push.f k (⟨#[]⟩ : ByteArray) false t288).bind fun bt289 => (some (bt289.2.2, (bt289.1.toList == ([] : List UInt8) && (!bt289.2.1))))) = some (r1, r2) := H
 have A4 := Aside0.mk A40
 clear A40
 replace H := Option.bind_eq_some_iff.mp H
 obtain ⟨⟨t289, t290, t291⟩, A50, H⟩ := H
 replace H : (some (t291, (t289.toList == ([] : List UInt8) && (!t290)))) = some (r1, r2) := H
 have A5 := Aside0.mk A50
 clear A50
 simp only [Option.some.injEq, Prod.mk.injEq] at H
 obtain ⟨rfl, rfl⟩ := H
 go_enter Try.func15, Try.ntmps15
 go_wp2_with (first | (go_at_call 17; (with_reducible refine (ref27_Bytes.calls k _ _ l0 a1 a2 t288 _ ?side1 ?side2 A4.out).mono ?_); (case side1 => repeat (first | exact HR0.out | (with_reducible refine Kd.C_alloc ?_ _) | (with_reducible refine Kd.C_drewN ?_ _) | (with_reducible refine Kd.C_drew ?_))); (case side2 => exact HC0.out); rintro e w' ⟨rfl, ⟨nd, rfl⟩⟩; (try first | exact ⟨rfl, _, World.drewN_drewN _ _ _⟩ | exact ⟨rfl, _, Eq.trans (World.drewN_drewN _ _ _) (congrArg (World.drewN _) (Nat.add_assoc _ _ _))⟩)) | (go_at_call 29; (with_reducible refine (ref09_Push.calls k (⟨#[]⟩ : ByteArray) false t288 t289 t290 t291 _ A5.out).mono ?_); rintro e w6 ⟨v292, rfl, ho0, hb⟩; have n0_ := Aside0.mk (Kd.R_lower ho0 (zT (by repeat (first | (with_reducible first | exact HB.out | apply zF | apply zD | apply zE) | exact HB.out)))); have n1_ := Aside0.mk (zU (by repeat (first | (with_reducible first | exact HB.out | apply zF | apply zD | apply zE) | exact HB.out)) hb); clear HB; have HO293 := n0_; have HB := n1_; clear n0_ n1_; (try clear hb); (try clear hb2); (try clear hk); (try clear hi); (try clear ho0)) | ((with_reducible refine gate_dst (N := 8) rfl ?_); refine box_event ?hg (N := 8) ?hd (cs := #[.string (⟨#[]⟩ : ByteArray), .bool false]) (t := 59) ?hr ?_; (case hd => rfl); (case hg => rfl); (case hr => first | (go_simp; done) | (go_simp; rfl)); intro gb294 hg w7 hbox hb; have n0_ := Aside0.mk (Kd.R_below (by (with_reducible repeat (first | apply zY | apply zX | apply zZ)); exact HO293.out) hb); have n1_ := Aside0.mk (zU (by repeat (first | (with_reducible first | exact HB.out | apply zF | apply zD | apply zE) | exact HB.out)) hb); have n2_ := Aside0.mk (hbox); have n3_ := Aside0.mk ((by rw [hg]; exact (zT (by repeat (first | (with_reducible first | exact HB.out | apply zF | apply zD | apply zE) | exact HB.out))) : w.heap.size ≤ gb294)); have n4_ := Aside0.mk ((by rw [hg]; exact (zT (by repeat (first | (with_reducible first | exact HB.out | apply zF | apply zD | apply zE) | exact HB.out))) : w.heap.size ≤ gb294)); clear HO293; clear HB; have HO293 := n0_; have HB := n1_; have BK294 := n2_; have GW294 := n3_; have GE294 := n4_; clear n0_ n1_ n2_ n3_ n4_; clear hb hbox hg; have hcz8_0 : w7.cell? ⟨gb294, 0, none⟩ = some (.string (⟨#[]⟩ : ByteArray)) := (zK BK294.out 0).trans rfl; have hcz8_1 : w7.cell? ⟨gb294, 1, none⟩ = some (.bool false) := (zK BK294.out 1).trans rfl; have hfz8_0 := zL BK294.out 0; have hfz8_1 := zL BK294.out 1))
 repeat (go_quiet (first | (go_at_call 17; (with_reducible refine (ref27_Bytes.calls k _ _ l0 a1 a2 t288 _ ?side1 ?side2 A4.out).mono ?_); (case side1 => repeat (first | exact HR0.out | (with_reducible refine Kd.C_alloc ?_ _) | (with_reducible refine Kd.C_drewN ?_ _) | (with_reducible refine Kd.C_drew ?_))); (case side2 => exact HC0.out); rintro e w' ⟨rfl, ⟨nd, rfl⟩⟩; (try first | exact ⟨rfl, _, World.drewN_drewN _ _ _⟩ | exact ⟨rfl, _, Eq.trans (World.drewN_drewN _ _ _) (congrArg (World.drewN _) (Nat.add_assoc _ _ _))⟩)) | (go_at_call 29; (with_reducible refine (ref09_Push.calls k (⟨#[]⟩ : ByteArray) false t288 t289 t290 t291 _ A5.out).mono ?_); rintro e w6 ⟨v292, rfl, ho0, hb⟩; have n0_ := Aside0.mk (Kd.R_lower ho0 (zT (by repeat (first | (with_reducible first | exact HB.out | apply zF | apply zD | apply zE) | exact HB.out)))); have n1_ := Aside0.mk (zU (by repeat (first | (with_reducible first | exact HB.out | apply zF | apply zD | apply zE) | exact HB.out)) hb); clear HB; have HO293 := n0_; have HB := n1_; clear n0_ n1_; (try clear hb); (try clear hb2); (try clear hk); (try clear hi); (try clear ho0)) | ((with_reducible refine gate_dst (N := 8) rfl ?_); refine box_event ?hg (N := 8) ?hd (cs := #[.string (⟨#[]⟩ : ByteArray), .bool false]) (t := 59) ?hr ?_; (case hd => rfl); (case hg => rfl); (case hr => first | (go_simp; done) | (go_simp; rfl)); intro gb294 hg w7 hbox hb; have n0_ := Aside0.mk (Kd.R_below (by (with_reducible repeat (first | apply zY | apply zX | apply zZ)); exact HO293.out) hb); have n1_ := Aside0.mk (zU (by repeat (first | (with_reducible first | exact HB.out | apply zF | apply zD | apply zE) | exact HB.out)) hb); have n2_ := Aside0.mk (hbox); have n3_ := Aside0.mk ((by rw [hg]; exact (zT (by repeat (first | (with_reducible first | exact HB.out | apply zF | apply zD | apply zE) | exact HB.out))) : w.heap.size ≤ gb294)); have n4_ := Aside0.mk ((by rw [hg]; exact (zT (by repeat (first | (with_reducible first | exact HB.out | apply zF | apply zD | apply zE) | exact HB.out))) : w.heap.size ≤ gb294)); clear HO293; clear HB; have HO293 := n0_; have HB := n1_; have BK294 := n2_; have GW294 := n3_; have GE294 := n4_; clear n0_ n1_ n2_ n3_ n4_; clear hb hbox hg; have hcz8_0 : w7.cell? ⟨gb294, 0, none⟩ = some (.string (⟨#[]⟩ : ByteArray)) := (zK BK294.out 0).trans rfl; have hcz8_1 : w7.cell? ⟨gb294, 1, none⟩ = some (.bool false) := (zK BK294.out 1).trans rfl; have hfz8_0 := zL BK294.out 0; have hfz8_1 := zL BK294.out 1)); try go_wp2_with (first | (go_at_call 17; (with_reducible refine (ref27_Bytes.calls k _ _ l0 a1 a2 t288 _ ?side1 ?side2 A4.out).mono ?_); (case side1 => repeat (first | exact HR0.out | (with_reducible refine Kd.C_alloc ?_ _) | (with_reducible refine Kd.C_drewN ?_ _) | (with_reducible refine Kd.C_drew ?_))); (case side2 => exact HC0.out); rintro e w' ⟨rfl, ⟨nd, rfl⟩⟩; (try first | exact ⟨rfl, _, World.drewN_drewN _ _ _⟩ | exact ⟨rfl, _, Eq.trans (World.drewN_drewN _ _ _) (congrArg (World.drewN _) (Nat.add_assoc _ _ _))⟩)) | (go_at_call 29; (with_reducible refine (ref09_Push.calls k (⟨#[]⟩ : ByteArray) false t288 t289 t290 t291 _ A5.out).mono ?_); rintro e w6 ⟨v292, rfl, ho0, hb⟩; have n0_ := Aside0.mk (Kd.R_lower ho0 (zT (by repeat (first | (with_reducible first | exact HB.out | apply zF | apply zD | apply zE) | exact HB.out)))); have n1_ := Aside0.mk (zU (by repeat (first | (with_reducible first | exact HB.out | apply zF | apply zD | apply zE) | exact HB.out)) hb); clear HB; have HO293 := n0_; have HB := n1_; clear n0_ n1_; (try clear hb); (try clear hb2); (try clear hk); (try clear hi); (try clear ho0)) | ((with_reducible refine gate_dst (N := 8) rfl ?_); refine box_event ?hg (N := 8) ?hd (cs := #[.string (⟨#[]⟩ : ByteArray), .bool false]) (t := 59) ?hr ?_; (case hd => rfl); (case hg => rfl); (case hr => first | (go_simp; done) | (go_simp; rfl)); intro gb294 hg w7 hbox hb; have n0_ := Aside0.mk (Kd.R_below (by (with_reducible repeat (first | apply zY | apply zX | apply zZ)); exact HO293.out) hb); have n1_ := Aside0.mk (zU (by repeat (first | (with_reducible first | exact HB.out | apply zF | apply zD | apply zE) | exact HB.out)) hb); have n2_ := Aside0.mk (hbox); have n3_ := Aside0.mk ((by rw [hg]; exact (zT (by repeat (first | (with_reducible first | exact HB.out | apply zF | apply zD | apply zE) | exact HB.out))) : w.heap.size ≤ gb294)); have n4_ := Aside0.mk ((by rw [hg]; exact (zT (by repeat (first | (with_reducible first | exact HB.out | apply zF | apply zD | apply zE) | exact HB.out))) : w.heap.size ≤ gb294)); clear HO293; clear HB; have HO293 := n0_; have HB := n1_; have BK294 := n2_; have GW294 := n3_; have GE294 := n4_; clear n0_ n1_ n2_ n3_ n4_; clear hb hbox hg; have hcz8_0 : w7.cell? ⟨gb294, 0, none⟩ = some (.string (⟨#[]⟩ : ByteArray)) := (zK BK294.out 0).trans rfl; have hcz8_1 : w7.cell? ⟨gb294, 1, none⟩ = some (.bool false) := (zK BK294.out 1).trans rfl; have hfz8_0 := zL BK294.out 0; have hfz8_1 := zL BK294.out 1)))
 go_ret2
 exact ⟨_, by first | rfl | (simp [errW_none, errW_some] <;> rfl) | (simp [*, errW_none, errW_some] <;> rfl), by (with_reducible repeat (first | apply zY | apply zX | apply zZ)); exact Kd.R_mono (Kd.R_far (p := ⟨gb294, 1, none⟩) (Kd.R_far (p := ⟨gb294, 0, none⟩) (Kd.R_types HO293.out BK294.out (by decide)) (fun _ hk => hk.2) (.string t289)) (fun _ hk => hk.2) (.bool t290)) (fun _ hk => trivial), by repeat (first | (with_reducible first | exact HB.out | apply zF | apply zD | apply zE | refine zJ ?_ GE294.out) | exact HB.out)⟩

/-! ### ref23_number: function 50 -/
def ref23_number.f (a0 : ByteArray) (a1 : Int) : Option (Int) := (ref01_At.f a0 a1).bind fun t295 => ((ref01_At.f a0 (wrap64 (a1 + 2))).bind fun t296 => ((ref01_At.f a0 (wrap64 (a1 + 4))).bind fun t297 => (some (wrap64 ((wrap64 ((wrap64 ((wrap64 (t295 * 65536)) + t296)) * 65536)) + t297)))))
set_option maxHeartbeats 8000000 in
set_option maxRecDepth 100000 in
theorem ref23_number.calls (a0 : ByteArray) (a1 : Int) (r : Int) (w : World) (h : ref23_number.f a0 a1 = some r) :
 Calls Try.prog 50 #[.string a0, .int .i64 a1] w fun e w' => e = .returned (.int .i64 r) ∧ Drawn0 w w' := by
 have H : ((ref01_At.f a0 a1).bind fun t295 => ((ref01_At.f a0 (wrap64 (a1 + 2))).bind fun t296 => ((ref01_At.f a0 (wrap64 (a1 + 4))).bind fun t297 => (some (wrap64 ((wrap64 ((wrap64 ((wrap64 (t295 * 65536)) + t296)) * 65536)) + t297)))))) = some r := h
 clear h
 replace H := Option.bind_eq_some_iff.mp H
 obtain ⟨t295, A30, H⟩ := H
 replace H : ((ref01_At.f a0 (wrap64 (a1 + 2))).bind fun t296 => ((ref01_At.f a0 (wrap64 (a1 + 4))).bind fun t297 => (some (wrap64 ((wrap64 ((wrap64 ((wrap64 (t295 * 65536)) + t296)) * 65536)) + t297))))) = some r := H
 have A3 := Aside0.mk A30
 clear A30
 replace H := Option.bind_eq_some_iff.mp H
 obtain ⟨t296, A40, H⟩ := H
 replace H : ((ref01_At.f a0 (wrap64 (a1 + 4))).bind fun t297 => (some (wrap64 ((wrap64 ((wrap64 ((wrap64 (t295 * 65536)) + t296)) * 65536)) + t297)))) = some r := H
 have A4 := Aside0.mk A40
 clear A40
 replace H := Option.bind_eq_some_iff.mp H
 obtain ⟨t297, A50, H⟩ := H
 replace H : (some (wrap64 ((wrap64 ((wrap64 ((wrap64 (t295 * 65536)) + t296)) * 65536)) + t297))) = some r := H
 have A5 := Aside0.mk A50
 clear A50
 obtain rfl := Option.some.inj H
 go_enter Try.func50, Try.ntmps50
 go_wp2_with (first | ((with_reducible refine gate_callee (f := 49) rfl ?_); refine goesL_ (some 7) rfl rfl Try.func49 (by kernel_rfl) rfl #[.string a0, .int .i64 a1] rfl (by (try simp only [zO, zP, zQ]); first | done | rfl | (simp only [zS, zR]; rfl)) ?_; (with_reducible refine (ref01_At.calls a0 a1 t295 _ A3.out).mono ?_); rintro e w' ⟨rfl, ⟨nd, rfl⟩⟩; refine ⟨_, rfl, ?_⟩) | ((with_reducible refine gate_callee (f := 49) rfl ?_); refine goesL_ (some 12) rfl rfl Try.func49 (by kernel_rfl) rfl #[.string a0, .int .i64 (wrap64 (a1 + 2))] rfl (by (try simp only [zO, zP, zQ]); first | done | rfl | (simp only [zS, zR]; rfl)) ?_; (with_reducible refine (ref01_At.calls a0 (wrap64 (a1 + 2)) t296 _ A4.out).mono ?_); rintro e w' ⟨rfl, ⟨nd, rfl⟩⟩; refine ⟨_, rfl, ?_⟩) | ((with_reducible refine gate_callee (f := 49) rfl ?_); refine goesL_ (some 18) rfl rfl Try.func49 (by kernel_rfl) rfl #[.string a0, .int .i64 (wrap64 (a1 + 4))] rfl (by (try simp only [zO, zP, zQ]); first | done | rfl | (simp only [zS, zR]; rfl)) ?_; (with_reducible refine (ref01_At.calls a0 (wrap64 (a1 + 4)) t297 _ A5.out).mono ?_); rintro e w' ⟨rfl, ⟨nd, rfl⟩⟩; refine ⟨_, rfl, ?_⟩))
 go_ret
 exact ⟨by first | rfl | (simp; done) | (simp [*]; done), by repeat (first | exact Drawn0.refl _ | apply Drawn0.step)⟩

/-! ### ref23_less: function 51 -/
def ref23_less.f (a0 : Int) : Option (Int) := if a0 = 255 then (some (-1)) else (some (wrap64 (a0)))
set_option maxHeartbeats 8000000 in
set_option maxRecDepth 100000 in
theorem ref23_less.calls (a0 : Int) (r : Int) (w : World) (h : ref23_less.f a0 = some r) :
 Calls Try.prog 51 #[.int .u8 a0] w fun e w' => e = .returned (.int .i64 r) ∧ Drawn0 w w' := by
 have H : (if a0 = 255 then (some (-1)) else (some (wrap64 (a0)))) = some r := h
 clear h
 by_cases c2 : a0 = 255
 ·rw [if_pos c2] at H
  have c2b0 : (a0 == 255) = true := beq_iff_eq.mpr c2
  have c2b1 : (a0 != 255) = false := bne_eq_false_iff_eq.mpr c2
  clear c2
  obtain rfl := Option.some.inj H
  go_enter Try.func51, Try.ntmps51
  go_wp2
  go_ret
  exact ⟨by first | rfl | (simp; done) | (simp [*]; done), by repeat (first | exact Drawn0.refl _ | apply Drawn0.step)⟩
 ·rw [if_neg c2] at H
  have c2b0 : (a0 == 255) = false := beq_eq_false_iff_ne.mpr c2
  have c2b1 : (a0 != 255) = true := bne_iff_ne.mpr c2
  obtain rfl := Option.some.inj H
  go_enter Try.func51, Try.ntmps51
  go_wp2
  go_ret
  exact ⟨by first | rfl | (simp; done) | (simp [*]; done), by repeat (first | exact Drawn0.refl _ | apply Drawn0.step)⟩

end Go.Proofs.Ytfapfpkijeaapaa.P

-- Written by a program of this session (wip/mkprint.py). Not trusted: Lean checks it.
import Derived.Test.YtbjbhhamjpbgnaaP0
import Derived.Test.YtbjbhhamjpbgnaaP1
import Derived.Test.YtbjbhhamjpbgnaaP3
import Derived.Test.YtbjbhhamjpbgnaaP4
import Derived.Test.YtbjbhhamjpbgnaaP5
namespace Go.Proofs.Ytbjbhhamjpbgnaa.P
open Go.RowKit Go.Proofs.YtbjbhhamjpbgnaaW.PrintWords Go.Proofs.YtbjbhhamjpbgnaaW.PrintLast Go.Proofs.YtbjbhhamjpbgnaaW.PrintMore
attribute [local go_sem] max2_int min2_int max_two min_two max_three min_three max_four min_four   -- for this text's walks alone
set_option linter.unusedVariables false
set_option linter.unusedSimpArgs false

attribute [local go_sem high] eqA23
/-! ### law09_StreamCuts: function 4 -/
mutual
def law09_StreamCuts.j0 : Nat → ByteArray → List Int → Bool → Option (Bool)
  | 0, _, _, _ => none
  | k + 1, x0, x1, x23 => if x23 = true then ((law09_awake.f k).bind fun t191 => (some t191)) else ((stream_Push.f k (⟨#[]⟩ : ByteArray) false x0).bind fun bt192 => (law09_StreamCuts.l0 k x1 bt192.2.2 ([] : List (S34)) x0 0 bt192.1 bt192.2.1 (⟨#[]⟩ : ByteArray) false))
def law09_StreamCuts.l0 : Nat → List Int → List (S34) → List (S34) → ByteArray → Int → ByteArray → Bool → ByteArray → Bool → Option (Bool)
  | 0, _, _, _, _, _, _, _, _, _ => none
  | k + 1, x1, x6, x8, x9, x10, x198000, x198001, x199000, x199001 => if x10 < (x1.length : Int) then (if 0 ≤ x10 then (if 0 ≤ (mn (wrap64 (rd x1 x10)) (x9.size : Int)) then (if (mn (wrap64 (rd x1 x10)) (x9.size : Int)) ≤ (x9.size : Int) then ((stream_Push.f k x199000 x199001 (x9.extract 0 ((mn (wrap64 (rd x1 x10)) (x9.size : Int)) : Int).toNat)).bind fun bt200 => (if x8.length + bt200.2.2.length < 4398046511104 then (law09_StreamCuts.l0 k x1 x6 (x8 ++ bt200.2.2) (x9.extract ((mn (wrap64 (rd x1 x10)) (x9.size : Int)) : Int).toNat x9.size) (wrap64 (x10 + 1)) x198000 x198001 bt200.1 bt200.2.1) else (none))) else (none)) else (none)) else (none)) else ((stream_Push.f k x199000 x199001 x9).bind fun bt209 => ((law09_awake.f k).bind fun t215 => (if t215 = true then (if (x198000.toList == bt209.1.toList && (x198001 == bt209.2.1)) = true then (if x8.length + bt209.2.2.length < 4398046511104 then ((ref08_Frames.f k x6 (x8 ++ bt209.2.2)).bind fun t219 => (some t219)) else (none)) else (some false)) else (some false))))
end
def law09_StreamCuts.f (k : Nat) (a0 : ByteArray) (l1 : List Int) : Option (Bool) := if (a0.size : Int) > 2000 then (law09_StreamCuts.j0 k a0 l1 true) else (law09_StreamCuts.j0 k a0 l1 (decide ((l1.length : Int) > 100)))
theorem law09_StreamCuts.mono_l : ∀ k, (∀ y0 y1 y2, LeO (law09_StreamCuts.j0 k y0 y1 y2) (law09_StreamCuts.j0 (k + 1) y0 y1 y2)) ∧ (∀ y0 y1 y2 y3 y4 y5 y6 y7 y8, LeO (law09_StreamCuts.l0 k y0 y1 y2 y3 y4 y5 y6 y7 y8) (law09_StreamCuts.l0 (k + 1) y0 y1 y2 y3 y4 y5 y6 y7 y8))
  | 0 => ⟨fun _ _ _ r h => by simp [law09_StreamCuts.j0] at h, fun _ _ _ _ _ _ _ _ _ r h => by simp [law09_StreamCuts.l0] at h⟩
  | k + 1 => by
    obtain ⟨ih0, ih1⟩ := law09_StreamCuts.mono_l k
    refine ⟨?_, ?_⟩
    · intro y0 y1 y2
      unfold law09_StreamCuts.j0
      repeat' first
      | (with_reducible exact ih0 _ _ _)
      | (with_reducible exact ih1 _ _ _ _ _ _ _ _ _)
      | (with_reducible exact law09_awake.mono _)
      | (with_reducible exact ref08_Frames.mono _ _ _)
      | (with_reducible exact stream_Push.mono _ _ _ _)
      | (with_reducible exact LeO.refl _)
      | (with_reducible exact LeO.none _)
      | (with_reducible refine LeO.ite ?_ ?_)
      | (with_reducible refine LeO.bind ?_ (fun _ => ?_))
      | exact ih0 _ _ _
      | exact ih1 _ _ _ _ _ _ _ _ _
      | exact law09_awake.mono _
      | exact ref08_Frames.mono _ _ _
      | exact stream_Push.mono _ _ _ _
      | exact LeO.none _
      | refine LeO.ite ?_ ?_
      | refine LeO.bind ?_ (fun _ => ?_)
    · intro y0 y1 y2 y3 y4 y5 y6 y7 y8
      unfold law09_StreamCuts.l0
      repeat' first
      | (with_reducible exact ih0 _ _ _)
      | (with_reducible exact ih1 _ _ _ _ _ _ _ _ _)
      | (with_reducible exact law09_awake.mono _)
      | (with_reducible exact ref08_Frames.mono _ _ _)
      | (with_reducible exact stream_Push.mono _ _ _ _)
      | (with_reducible exact LeO.refl _)
      | (with_reducible exact LeO.none _)
      | (with_reducible refine LeO.ite ?_ ?_)
      | (with_reducible refine LeO.bind ?_ (fun _ => ?_))
      | exact ih0 _ _ _
      | exact ih1 _ _ _ _ _ _ _ _ _
      | exact law09_awake.mono _
      | exact ref08_Frames.mono _ _ _
      | exact stream_Push.mono _ _ _ _
      | exact LeO.none _
      | refine LeO.ite ?_ ?_
      | refine LeO.bind ?_ (fun _ => ?_)
theorem law09_StreamCuts.mono : ∀ a0 a1 k, LeO (law09_StreamCuts.f k a0 a1) (law09_StreamCuts.f (k + 1) a0 a1) := by
  intro a0 a1 k
  obtain ⟨ih0, ih1⟩ := law09_StreamCuts.mono_l k
  unfold law09_StreamCuts.f
  repeat' first
      | (with_reducible exact ih0 _ _ _)
      | (with_reducible exact ih1 _ _ _ _ _ _ _ _ _)
      | (with_reducible exact law09_awake.mono _)
      | (with_reducible exact ref08_Frames.mono _ _ _)
      | (with_reducible exact stream_Push.mono _ _ _ _)
      | (with_reducible exact LeO.refl _)
      | (with_reducible exact LeO.none _)
      | (with_reducible refine LeO.ite ?_ ?_)
      | (with_reducible refine LeO.bind ?_ (fun _ => ?_))
      | exact ih0 _ _ _
      | exact ih1 _ _ _ _ _ _ _ _ _
      | exact law09_awake.mono _
      | exact ref08_Frames.mono _ _ _
      | exact stream_Push.mono _ _ _ _
      | exact LeO.none _
      | refine LeO.ite ?_ ?_
      | refine LeO.bind ?_ (fun _ => ?_)
def law09_StreamCuts.T11 : Bool × List (List Nat × List Nat) := (true, [([], []), ([], []), ([], []), ([1, 2], [1, 2]), ([0, 3], [0, 3]), ([4], [4]), ([5], [5]), ([5], [5]), ([], []), ([8, 6, 4, 0, 1, 2, 3, 4, 5, 6, 8], [6, 8]), ([7, 9, 0, 1, 2, 3, 4, 5, 6, 7, 8, 9], [7])])
def law09_StreamCuts.B11 : List Nat := [0, 0, 0, 6, 15, 31, 63, 63, 0, 383, 1023]
theorem law09_StreamCuts.tab11 : rtab .any (opsOf Try.f4 11) = law09_StreamCuts.T11 := by kernel_rfl
theorem law09_StreamCuts.bits11 : waitsOk law09_StreamCuts.T11.2 law09_StreamCuts.B11 = true := by kernel_rfl
def law09_StreamCuts.T12 : Bool × List (List Nat × List Nat) := (true, [([], []), ([], []), ([], []), ([1, 2], [1, 2]), ([], []), ([], []), ([4, 5], [4, 5]), ([0, 3, 0], [0]), ([3, 7, 0, 1, 2, 3, 7], [1, 3]), ([6, 8, 0, 1, 2, 3, 4, 5, 6, 7, 8], [4, 6])])
def law09_StreamCuts.B12 : List Nat := [0, 0, 0, 6, 0, 0, 48, 15, 143, 511]
theorem law09_StreamCuts.tab12 : rtab .any (opsOf Try.f4 12) = law09_StreamCuts.T12 := by kernel_rfl
theorem law09_StreamCuts.bits12 : waitsOk law09_StreamCuts.T12.2 law09_StreamCuts.B12 = true := by kernel_rfl
set_option maxHeartbeats 8000000 in
set_option maxRecDepth 100000 in
theorem law09_StreamCuts.calls (k : Nat) (a0 : ByteArray) (A1 : Option Addr) (c1 : Nat) (l1 : List Int) (r : Bool) (w : World) (hr1 : Kd.C (Kd.int .u8) w A1 l1.length l1) (hc1 : l1.length ≤ c1) (h : law09_StreamCuts.f k a0 l1 = some r) :
    Calls Try.prog 4 #[.string a0, .slice A1 l1.length c1] w fun e w' => e = .returned (.bool r) ∧ Below w.heap.size w w' := by
  have hu23 := Try.underlying23
  have HR1 := Aside0.mk hr1
  have HC1 := Aside0.mk hc1
  clear hr1 hc1
  have HB := Aside0.mk (Below.refl w.heap.size w)
  have H : (if (a0.size : Int) > 2000 then (law09_StreamCuts.j0 k a0 l1 true) else (law09_StreamCuts.j0 k a0 l1 (decide ((l1.length : Int) > 100)))) = some r := h
  clear h
  have HC3 := Aside0.mk H
  clear H
  go_enter Try.func4, Try.ntmps4
  go_upto_region 1 with (fail)
  go_cut [23] (fun v23 wc => ∃ (kq : Nat) (x23_2 : Bool), v23 = .bool x23_2 ∧ Aside0 (law09_StreamCuts.j0 kq a0 l1 x23_2 = some r) ∧ Aside0 (kq ≤ k) ∧ Aside0 (Below w.heap.size w wc))
  case first =>
    have H := HC3.out
    clear HC3
    by_cases c4 : (a0.size : Int) > 2000
    · rw [if_pos c4] at H
      have c4b0 : decide (2000 < (a0.size : Int)) = true := decide_eq_true c4
      have c4b1 : decide (2000 < a0.size) = true := decide_eq_true (by omega)
      clear c4
      (first | rw [c4b0] | (simp only [i64_w, i32_w]; rw [c4b0]) | skip)
      have H' := Aside0.mk H
      clear H
      go_wp2
      go_meet
      case rel => exact ⟨_, (true), (by first | rfl | (simp; done) | (simp [*]; done)), H', ⟨by first | omega | exact Nat.le_refl _⟩, ⟨by repeat (first | (with_reducible first | exact HB.out | apply below_alloc | apply pw_below_drewN | apply below_drew1) | exact HB.out)⟩⟩
    · rw [if_neg c4] at H
      have c4b0 : decide (2000 < (a0.size : Int)) = false := decide_eq_false c4
      have c4b1 : decide (2000 < a0.size) = false := decide_eq_false (by omega)
      clear c4
      (first | rw [c4b0] | (simp only [i64_w, i32_w]; rw [c4b0]) | skip)
      have H' := Aside0.mk H
      clear H
      go_wp2
      go_meet
      case rel => exact ⟨_, (decide ((l1.length : Int) > 100)), (by first | rfl | (simp; done) | (simp [*]; done)), H', ⟨by first | omega | exact Nat.le_refl _⟩, ⟨by repeat (first | (with_reducible first | exact HB.out | apply below_alloc | apply pw_below_drewN | apply below_drew1) | exact HB.out)⟩⟩
  case rest =>
    clear HC3
    try clear c1
    try clear p2
    try clear c4
    try clear c4b0
    try clear c4b1
    obtain ⟨kq, x23_2, rfl, HA, HJ2, HB⟩ := hcut
    cases kq with
    | zero => exact absurd HA.out (by simp [law09_StreamCuts.j0])
    | succ kj2 =>
      have H := HA.out
      clear HA
      simp only [law09_StreamCuts.j0] at H
      by_cases c5 : x23_2 = true
      · subst c5
        have H1 : ((law09_awake.f kj2).bind fun t191 => (some t191)) = some r := by rw [if_pos rfl] at H; exact H
        clear H
        have H := H1
        clear H1
        replace H := Option.bind_eq_some_iff.mp H
        obtain ⟨t191, A60, H⟩ := H
        replace H : (some t191) = some r := H
        have A6 := Aside0.mk A60
        clear A60
        obtain rfl := Option.some.inj H
        go_wp2_with (first | ((with_reducible refine gate_callee (f := 6) rfl ?_); refine goesL_ (some 24) rfl rfl Try.func6 (by kernel_rfl) rfl #[] rfl (by (try simp only [List.map_toArray, List.map_cons, List.map_nil]); first | done | rfl | (simp only [List.length_drop, List.length_take]; rfl)) ?_; (with_reducible refine (law09_awake.calls kj2  t191 _ A6.out).mono ?_); rintro e w7 ⟨rfl, hb⟩; refine ⟨_, rfl, ?_⟩; have n0_ := Aside0.mk (below_step (by repeat (first | (with_reducible first | exact HB.out | apply below_alloc | apply pw_below_drewN | apply below_drew1) | exact HB.out)) hb); clear HB; have HB := n0_; clear n0_; (try clear hb); (try clear hb2); (try clear hk); (try clear hi)))
        go_ret
        exact ⟨by first | rfl | (simp [errW_none, errW_some] <;> rfl) | (simp [*, errW_none, errW_some] <;> rfl), by repeat (first | (with_reducible first | exact HB.out | apply below_alloc | apply pw_below_drewN | apply below_drew1) | exact HB.out)⟩
      · replace c5 := Bool.eq_false_iff.mpr c5
        subst c5
        have H1 : ((stream_Push.f kj2 (⟨#[]⟩ : ByteArray) false a0).bind fun bt192 => (law09_StreamCuts.l0 kj2 l1 bt192.2.2 ([] : List (S34)) a0 0 bt192.1 bt192.2.1 (⟨#[]⟩ : ByteArray) false)) = some r := by rw [if_neg (show ¬ (false = true) by decide)] at H; exact H
        clear H
        have H := H1
        clear H1
        replace H := Option.bind_eq_some_iff.mp H
        obtain ⟨⟨t192, t193, t194⟩, A80, H⟩ := H
        replace H : (law09_StreamCuts.l0 kj2 l1 t194 ([] : List (S34)) a0 0 t192 t193 (⟨#[]⟩ : ByteArray) false) = some r := H
        have A8 := Aside0.mk A80
        clear A80
        have H' := Aside0.mk H
        clear H
        go_wp2_with (first | ((with_reducible refine gate_callee (f := 9) rfl ?_); refine goesL_ (some 28) rfl rfl Try.func9 (by kernel_rfl) rfl #[.agg #[.string (⟨#[]⟩ : ByteArray), .bool false], .string a0] rfl (by (try simp only [List.map_toArray, List.map_cons, List.map_nil]); first | done | rfl | (simp only [List.length_drop, List.length_take]; rfl)) ?_; (with_reducible refine (stream_Push.calls kj2 (⟨#[]⟩ : ByteArray) false a0 t192 t193 t194 _ A8.out).mono ?_); rintro e w9 ⟨v195, rfl, ho0, hb⟩; refine ⟨_, rfl, ?_⟩; have n0_ := Aside0.mk (Kd.R_lower ho0 (below_size (by repeat (first | (with_reducible first | exact HB.out | apply below_alloc | apply pw_below_drewN | apply below_drew1) | exact HB.out)))); have n1_ := Aside0.mk (below_step (by repeat (first | (with_reducible first | exact HB.out | apply below_alloc | apply pw_below_drewN | apply below_drew1) | exact HB.out)) hb); clear HB; have HO196 := n0_; have HB := n1_; clear n0_ n1_; (try clear hb); (try clear hb2); (try clear hk); (try clear hi); (try clear ho0)) | ((with_reducible refine gate_dst (N := 5) rfl ?_); (try (refine gate_guard (by rfl) ?_; dsimp only)); refine box_event ?hg (N := 5) ?hd (cs := #[.string (⟨#[]⟩ : ByteArray), .bool false]) (t := 23) ?hr ?_; (case hd => rfl); (case hg => rfl); (case hr => first | (go_simp; done) | (go_simp; rfl)); intro gb197 hg w10 hbox hb; have n0_ := Aside0.mk (Kd.R_below (by (with_reducible repeat (first | apply Kd.R_alloc | apply Kd.R_drewN | apply Kd.R_drew)); exact HO196.out) hb); have n1_ := Aside0.mk (below_step (by repeat (first | (with_reducible first | exact HB.out | apply below_alloc | apply pw_below_drewN | apply below_drew1) | exact HB.out)) hb); have n2_ := Aside0.mk (hbox); have n3_ := Aside0.mk ((by rw [hg]; exact (below_size (by repeat (first | (with_reducible first | exact HB.out | apply below_alloc | apply pw_below_drewN | apply below_drew1) | exact HB.out))) : w.heap.size ≤ gb197)); have n4_ := Aside0.mk ((by rw [hg]; exact (below_size (by repeat (first | (with_reducible first | exact HB.out | apply below_alloc | apply pw_below_drewN | apply below_drew1) | exact HB.out))) : w.heap.size ≤ gb197)); clear HO196; clear HB; have HO196 := n0_; have HB := n1_; have BK197 := n2_; have GW197 := n3_; have GE197 := n4_; clear n0_ n1_ n2_ n3_ n4_; clear hb hbox hg; have hcz11_0 : w10.cell? ⟨gb197, 0, none⟩ = some (.string (⟨#[]⟩ : ByteArray)) := (blk_cell BK197.out 0).trans rfl; have hcz11_1 : w10.cell? ⟨gb197, 1, none⟩ = some (.bool false) := (blk_cell BK197.out 1).trans rfl; have hfz11_0 := blk_frozen BK197.out 0; have hfz11_1 := blk_frozen BK197.out 1) | ((with_reducible refine gate_dst (N := 7) rfl ?_); (try (refine gate_guard (by rfl) ?_; dsimp only)); refine box_event ?hg (N := 7) ?hd (cs := #[.string (⟨#[]⟩ : ByteArray), .bool false]) (t := 23) ?hr ?_; (case hd => rfl); (case hg => rfl); (case hr => first | (go_simp; done) | (go_simp; rfl)); intro gb198 hg w12 hbox hb; have n0_ := Aside0.mk (Kd.R_below (by (with_reducible repeat (first | apply Kd.R_alloc | apply Kd.R_drewN | apply Kd.R_drew)); exact (Kd.R_mono (Kd.R_far (p := ⟨gb197, 1, none⟩) (Kd.R_far (p := ⟨gb197, 0, none⟩) (Kd.R_types HO196.out BK197.out (by decide)) (fun _ hk => hk.2) (.string t192)) (fun _ hk => hk.2) (.bool t193)) (fun _ h_ => h_.1))) hb); have n1_ := Aside0.mk (blk_below (g := gb197) (o := .cells #[.string t192, .bool t193] 23 (0, 0)) (by (with_reducible repeat (first | refine blk_drewN ?_ _ | refine blk_drew ?_ | refine blk_alloc ?_ _)); refine blk_put (cs := #[.string t192, .bool false]) ?_ 1 _ rfl; (with_reducible repeat (first | refine blk_drewN ?_ _ | refine blk_drew ?_ | refine blk_alloc ?_ _)); refine blk_put (cs := #[.string (⟨#[]⟩ : ByteArray), .bool false]) ?_ 0 _ rfl; (with_reducible repeat (first | refine blk_drewN ?_ _ | refine blk_drew ?_ | refine blk_alloc ?_ _)); exact BK197.out) hb); have n2_ := Aside0.mk (below_step (by repeat (first | (with_reducible first | exact HB.out | apply below_alloc | apply pw_below_drewN | apply below_drew1 | refine below_set ?_ GE197.out) | exact HB.out)) hb); have n3_ := Aside0.mk (hbox); have n4_ := Aside0.mk ((by rw [hg]; exact (below_size (by repeat (first | (with_reducible first | exact HB.out | apply below_alloc | apply pw_below_drewN | apply below_drew1 | refine below_set ?_ GE197.out) | exact HB.out))) : w.heap.size ≤ gb198)); have n5_ := Aside0.mk ((by rw [hg]; exact (below_size (by repeat (first | (with_reducible first | exact HB.out | apply below_alloc | apply pw_below_drewN | apply below_drew1 | refine below_set ?_ GE197.out) | exact HB.out))) : w.heap.size ≤ gb198)); have n6_ := Aside0.mk ((by rw [hg]; exact Nat.ne_of_lt (blk_lt (g := gb197) (o := .cells #[.string t192, .bool t193] 23 (0, 0)) (by (with_reducible repeat (first | refine blk_drewN ?_ _ | refine blk_drew ?_ | refine blk_alloc ?_ _)); refine blk_put (cs := #[.string t192, .bool false]) ?_ 1 _ rfl; (with_reducible repeat (first | refine blk_drewN ?_ _ | refine blk_drew ?_ | refine blk_alloc ?_ _)); refine blk_put (cs := #[.string (⟨#[]⟩ : ByteArray), .bool false]) ?_ 0 _ rfl; (with_reducible repeat (first | refine blk_drewN ?_ _ | refine blk_drew ?_ | refine blk_alloc ?_ _)); exact BK197.out)) : gb197 ≠ gb198)); have n7_ := Aside0.mk ((by rw [hg]; exact Nat.ne_of_gt (blk_lt (g := gb197) (o := .cells #[.string t192, .bool t193] 23 (0, 0)) (by (with_reducible repeat (first | refine blk_drewN ?_ _ | refine blk_drew ?_ | refine blk_alloc ?_ _)); refine blk_put (cs := #[.string t192, .bool false]) ?_ 1 _ rfl; (with_reducible repeat (first | refine blk_drewN ?_ _ | refine blk_drew ?_ | refine blk_alloc ?_ _)); refine blk_put (cs := #[.string (⟨#[]⟩ : ByteArray), .bool false]) ?_ 0 _ rfl; (with_reducible repeat (first | refine blk_drewN ?_ _ | refine blk_drew ?_ | refine blk_alloc ?_ _)); exact BK197.out)) : gb198 ≠ gb197)); clear HO196; clear BK197; clear HB; have HO196 := n0_; have BK197 := n1_; have HB := n2_; have BK198 := n3_; have GW198 := n4_; have GE198 := n5_; have NB197_198 := n6_; have NB198_197 := n7_; clear n0_ n1_ n2_ n3_ n4_ n5_ n6_ n7_; clear hb hbox hg))
        go_loopg [8, 9, 10] kj2 (fun kq v8 v9 v10 w' => ∃ (x8_2 : List (S34)) (x9_2 : ByteArray) (x10_2 : Int) (x199000_2 : ByteArray) (x199001_2 : Bool), v9 = .string x9_2 ∧ v10 = .int .i64 x10_2 ∧ Aside0 (law09_StreamCuts.l0 kq l1 t194 x8_2 x9_2 x10_2 t192 t193 x199000_2 x199001_2 = some r) ∧ Aside0 (kq ≤ kj2) ∧ Aside0 (Kd.R k34 34 w' w.heap.size (fun k_ => some k_ ≠ (v8 : Value).ownBlock) v195 t194) ∧ Aside0 (Kd.R k34 34 w' w.heap.size (fun k_ => some k_ ≠ (v195 : Value).ownBlock) v8 x8_2) ∧ Aside0 (w'.heap[gb197]? = some (.cells #[.string t192, .bool t193] 23 (0, 0))) ∧ Aside0 (w'.heap[gb198]? = some (.cells #[.string x199000_2, .bool x199001_2] 23 (0, 0))) ∧ Aside0 (Below w.heap.size w w'))
        case atStart => exact ⟨(([] : List (S34))), (a0), (0), ((⟨#[]⟩ : ByteArray)), (false), (by first | rfl | (simp; done) | (simp [*]; done)), (by first | rfl | (simp; done) | (simp [*]; done)), H', ⟨Nat.le_refl _⟩, ⟨by (with_reducible repeat (first | apply Kd.R_alloc | apply Kd.R_drewN | apply Kd.R_drew)); exact Kd.R_mono HO196.out (fun _ hk => (by simp [Value.ownBlock]))⟩, ⟨by first | exact Kd.R_nil _ _ _ _ _ | exact Kd.N_nil _ _ _ _ _ | exact Kd.V_nil _ _ _ _ _ | exact Kd.Q_nil _ _ _ _ _ | exact Kd.S_nil _ _ _ _ _⟩, ⟨by (with_reducible repeat (first | refine blk_drewN ?_ _ | refine blk_drew ?_ | refine blk_alloc ?_ _)); exact BK197.out⟩, ⟨by (with_reducible repeat (first | refine blk_drewN ?_ _ | refine blk_drew ?_ | refine blk_alloc ?_ _)); exact BK198.out⟩, ⟨by repeat (first | (with_reducible first | exact HB.out | apply below_alloc | apply pw_below_drewN | apply below_drew1 | refine below_set ?_ GE197.out | refine below_set ?_ GE198.out) | exact HB.out)⟩⟩
        case round =>
          clear H'
          try clear c1
          try clear p2
          try clear c4
          try clear c4b0
          try clear c4b1
          try clear c5
          try clear c6
          try clear c9
          try clear hcz11_0
          try clear hcz11_1
          try clear hfz11_0
          try clear hfz11_1
          try clear p2
          obtain ⟨x8_2, x9_2, x10_2, x199000_2, x199001_2, rfl, rfl, HA, HK2, HO_6, HO_8, BK197, BK198, HB⟩ := hrel
          cases gk with
          | zero => exact absurd HA.out (by simp [law09_StreamCuts.l0])
          | succ k2 =>
            have H := HA.out
            clear HA
            simp only [law09_StreamCuts.l0] at H
            by_cases c13 : x10_2 < (l1.length : Int)
            · rw [if_pos c13] at H
              have c13b0 : decide (x10_2 < (l1.length : Int)) = true := decide_eq_true c13
              clear c13
              by_cases c14 : 0 ≤ x10_2
              · rw [if_pos c14] at H
                have c14b0 : decide (0 ≤ x10_2) = true := decide_eq_true c14
                clear c14
                obtain ⟨ji15, hji15⟩ : ∃ j_ : Int, (mn (wrap64 (rd l1 x10_2)) (x9_2.size : Int)) = j_ := ⟨_, rfl⟩
                replace H : (if 0 ≤ (ji15) then (if (ji15) ≤ (x9_2.size : Int) then ((stream_Push.f k2 x199000_2 x199001_2 (x9_2.extract 0 ((ji15) : Int).toNat)).bind fun bt200 => (if x8_2.length + bt200.2.2.length < 4398046511104 then (law09_StreamCuts.l0 k2 l1 t194 (x8_2 ++ bt200.2.2) (x9_2.extract ((ji15) : Int).toNat x9_2.size) (wrap64 (x10_2 + 1)) t192 t193 bt200.1 bt200.2.1) else (none))) else (none)) else (none)) = some r := by first | (rw [hji15] at H; exact H) | (simp only [hji15] at H ⊢; exact H)
                have hji15_ : (if (x9_2.size : Int) < (wrap64 (rd l1 x10_2)) then (x9_2.size : Int) else (wrap64 (rd l1 x10_2))) = ji15 := hji15
                by_cases c16 : 0 ≤ (ji15)
                · rw [if_pos c16] at H
                  have c16b0 := eq_true c16
                  have c16b1 : decide (0 ≤ (ji15)) = true := decide_eq_true c16
                  clear c16
                  by_cases c17 : (ji15) ≤ (x9_2.size : Int)
                  · rw [if_pos c17] at H
                    have c17b0 := eq_true c17
                    have c17b1 : decide ((ji15) ≤ (x9_2.size : Int)) = true := decide_eq_true c17
                    clear c17
                    replace H := Option.bind_eq_some_iff.mp H
                    obtain ⟨⟨t200, t201, t202⟩, A180, H⟩ := H
                    replace H : (if x8_2.length + t202.length < 4398046511104 then (law09_StreamCuts.l0 k2 l1 t194 (x8_2 ++ t202) (x9_2.extract ((ji15) : Int).toNat x9_2.size) (wrap64 (x10_2 + 1)) t192 t193 t200 t201) else (none)) = some r := H
                    have A18 := Aside0.mk A180
                    clear A180
                    by_cases c19 : x8_2.length + t202.length < 4398046511104
                    · rw [if_pos c19] at H
                      have LMc19 := Aside0.mk c19
                      clear c19
                      obtain ⟨y206, hy206⟩ : ∃ y_ : List (S34), y_ = (x8_2 ++ t202) := ⟨_, rfl⟩
                      replace H : (law09_StreamCuts.l0 k2 l1 t194 y206 (x9_2.extract ((ji15) : Int).toNat x9_2.size) (wrap64 (x10_2 + 1)) t192 t193 t200 t201) = some r := by first | (rw [hy206]; with_reducible exact H) | (have H2_ := (Option.bind_some _ _).symm.trans H; rw [hy206]; with_reducible exact H2_) | (have H2_ := (Option.bind_some _ _).symm.trans H; with_reducible exact H2_) | with_reducible exact H | (rw [hy206]; exact H) | exact H
                      have Ny206 := Aside0.mk hy206
                      clear hy206
                      have c20b0 := eq_true (of_decide_eq_true (by first | (with_reducible assumption) | assumption) : 0 ≤ (ji15))
                      have c21b0 := eq_true (of_decide_eq_true (by first | (with_reducible assumption) | assumption) : (ji15) ≤ (x9_2.size : Int))
                      have H' := Aside0.mk H
                      clear H
                      have p199 : 0 ≤ (x10_2 : Int) := of_decide_eq_true (by first | (with_reducible assumption) | assumption)
                      have q199 : x10_2 < (l1.length : Int) := of_decide_eq_true (by first | (with_reducible assumption) | assumption)
                      obtain ⟨ad199, e199, hx199_0⟩ := Kd.at_int HR1.out x10_2 p199 q199
                      cases e199
                      replace hx199_0 := (HB.out.cell (World.block_lt_of_cell? w _ hx199_0)).trans hx199_0
                      replace p199 := eq_true p199
                      replace q199 := eq_true q199
                      try go_wp2
                      have n0_ := Aside0.mk (Kd.R_drew HO_6.out)
                      have n1_ := Aside0.mk (Kd.R_drew HO_8.out)
                      have n2_ := Aside0.mk (blk_drew BK197.out)
                      have n3_ := Aside0.mk (blk_drew BK198.out)
                      have n4_ := Aside0.mk (below_drew1 HB.out)
                      clear HO_6
                      clear HO_8
                      clear BK197
                      clear BK198
                      clear HB
                      have HO_6 := n0_
                      have HO_8 := n1_
                      have BK197 := n2_
                      have BK198 := n3_
                      have HB := n4_
                      clear n0_ n1_ n2_ n3_ n4_
                      refine start_ (n := 11) (S := fun w' => w'.cell? ⟨gb198, 0, none⟩ = some (.string x199000_2) ∧ w'.cell? ⟨gb198, 1, none⟩ = some (.bool x199001_2)) (ds := []) #[false, false, false, false, false, false, false, false, false, false, false] (by kernel_rfl) rfl rfl ⟨(blk_cell BK198.out 0).trans rfl, (blk_cell BK198.out 1).trans rfl⟩ (fun hHeld => ?_); refine with_tabW law09_StreamCuts.tab11 law09_StreamCuts.bits11 (fun HT_ HW_ => ?_)
                      generalize wr.drew = w22 at HO_6 HO_8 BK197 BK198 HB hHeld ⊢
                      refine pure_ (i := 1) (N := some 48) (v := ?_) (a' := ?_) #[false, true, false, false, false, false, false, false, false, false, false] rfl rfl (any_of HT_.out (by kernel_rfl)) (fun _ _ _ h => h) (Or.inl ⟨by rfl, ?_⟩) ?_ ?_
                      rotate_left
                      · intro w'
                        go_simp
                        with_reducible rfl
                      rotate_left
                      · simp only [Act.put, List.setIfInBounds_toArray, List.set_cons_zero, List.set_cons_succ, i64_w, i32_w]
                        rfl
                      refine pure_ (i := 2) (N := some 49) (v := ?_) (a' := ?_) #[false, true, true, false, false, false, false, false, false, false, false] rfl rfl (any_of HT_.out (by kernel_rfl)) (fun _ _ _ h => h) (Or.inl ⟨by rfl, ?_⟩) ?_ ?_
                      rotate_left
                      · intro w'
                        go_simp
                        with_reducible rfl
                      rotate_left
                      · simp only [Act.put, List.setIfInBounds_toArray, List.set_cons_zero, List.set_cons_succ, i64_w, i32_w]
                        rfl
                      refine pure_ (i := 3) (N := some 50) (v := ?_) (a' := ?_) #[false, true, true, true, false, false, false, false, false, false, false] rfl rfl (any_of HT_.out (by kernel_rfl)) (fun _ _ _ h => h) (Or.inl ⟨by rfl, ?_⟩) ?_ ?_
                      rotate_left
                      · intro w'
                        go_simp
                        with_reducible rfl
                      rotate_left
                      · simp only [Act.put, List.setIfInBounds_toArray, List.set_cons_zero, List.set_cons_succ, i64_w, i32_w]
                        rfl
                      refine take_ (i := 0) (N := some 47) (v := ?_) (a' := ?_) #[true, true, true, true, false, false, false, false, false, false, false] rfl rfl (take_ofW HT_.out HW_.out (by kernel_rfl)) (fun _ _ _ h => h) (Or.inl ⟨by rfl, ?_⟩) hHeld ?_ ?_
                      rotate_left
                      · rintro w' ⟨s0, s1⟩
                        go_simp
                        with_reducible rfl
                      rotate_left
                      · simp only [Act.put, List.setIfInBounds_toArray, List.set_cons_zero, List.set_cons_succ, i64_w, i32_w]
                        rfl
                      refine join_ (σ := Value × Nat) 2 #[true, true, true, true, true, true, true, true, true, false, false] (fun s_ => [(51, .tuple #[.agg #[.string t200, .bool t201], s_.1]), (12, .pointer (some ⟨s_.2, 0, none⟩)), (46, .tuple #[.agg #[.string t200, .bool t201], s_.1]), (52, .agg #[.string t200, .bool t201]), (53, s_.1)]) (fun s_ w' => (w'.cell? ⟨gb198, 0, none⟩ = some (.string x199000_2) ∧ w'.cell? ⟨gb198, 1, none⟩ = some (.bool x199001_2)) ∧ (Kd.R k34 34 w' w.heap.size (fun k_ => some k_ ≠ (v195 : Value).ownBlock ∧ some k_ ≠ (u8 : Value).ownBlock) s_.1 t202) ∧ (Kd.R k34 34 w' w.heap.size (fun k_ => some k_ ≠ (s_.1 : Value).ownBlock ∧ some k_ ≠ (u8 : Value).ownBlock) v195 t194) ∧ (Kd.R k34 34 w' w.heap.size (fun k_ => some k_ ≠ (s_.1 : Value).ownBlock ∧ some k_ ≠ (v195 : Value).ownBlock) u8 x8_2) ∧ (w'.heap[gb197]? = some (.cells #[.string t192, .bool t193] 23 (0, 0))) ∧ (w'.heap[gb198]? = some (.cells #[.string x199000_2, .bool x199001_2] 23 (0, 0))) ∧ (w'.heap[s_.2]? = some (.cells #[.string (⟨#[]⟩ : ByteArray), .bool false] 23 (0, 0))) ∧ (w.heap.size ≤ s_.2) ∧ (w.heap.size ≤ s_.2) ∧ (gb197 ≠ s_.2) ∧ (s_.2 ≠ gb197) ∧ (gb198 ≠ s_.2) ∧ (s_.2 ≠ gb198) ∧ (Below w.heap.size w w')) ?_ ?_
                      rotate_left
                      · intro hCont
                        refine two_ (i := 4) (j := 8) (Ni := some 51) (Nj := some 12) #[true, true, true, true, true, false, false, false, false, false, false] #[true, true, true, true, false, false, false, false, true, false, false] rfl rfl rfl rfl (two_of HT_.out (by kernel_rfl)) (by decide) (by decide) (fun K hK => ?_) (fun K hK => ?_)
                        · skip
                          refine goes_ Try.func9 (by kernel_rfl) rfl #[.agg #[.string x199000_2, .bool x199001_2], .string (x9_2.extract 0 ((ji15) : Int).toNat)] (by rfl) rfl rfl (by (try simp only [List.map_toArray, List.map_cons, List.map_nil]); first | done | (simp only [hji15]; rfl) | rfl | (simp only [List.length_drop, List.length_take]; rfl)) ?_
                          with_reducible refine (stream_Push.calls k2 x199000_2 x199001_2 (x9_2.extract 0 ((ji15) : Int).toNat) t200 t201 t202 _ A18.out).mono ?_
                          rintro e w23 ⟨v203, rfl, ho0, hb⟩
                          refine ⟨_, rfl, ?_⟩
                          have n0_ := Aside0.mk (Kd.R_elder' (by (with_reducible repeat (first | apply Kd.R_alloc | apply Kd.R_drewN | apply Kd.R_drew)); exact HO_6.out) (Kd.R_base ho0) hb)
                          have n1_ := Aside0.mk (Kd.R_elder' (by (with_reducible repeat (first | apply Kd.R_alloc | apply Kd.R_drewN | apply Kd.R_drew)); exact HO_8.out) (Kd.R_base ho0) hb)
                          have n2_ := Aside0.mk (Kd.R_lower (Kd.R_new' (Kd.R_new' ho0 (Kd.R_lt (by (with_reducible repeat (first | apply Kd.R_alloc | apply Kd.R_drewN | apply Kd.R_drew)); exact HO_6.out))) (Kd.R_lt (by (with_reducible repeat (first | apply Kd.R_alloc | apply Kd.R_drewN | apply Kd.R_drew)); exact HO_8.out))) (below_size (by repeat (first | (with_reducible first | exact HB.out | apply below_alloc | apply pw_below_drewN | apply below_drew1 | refine below_set ?_ GE197.out | refine below_set ?_ GE198.out) | exact HB.out))))
                          have n3_ := Aside0.mk (blk_below (g := gb197) (o := .cells #[.string t192, .bool t193] 23 (0, 0)) (by (with_reducible repeat (first | refine blk_drewN ?_ _ | refine blk_drew ?_ | refine blk_alloc ?_ _)); exact BK197.out) hb)
                          have n4_ := Aside0.mk (blk_below (g := gb198) (o := .cells #[.string x199000_2, .bool x199001_2] 23 (0, 0)) (by (with_reducible repeat (first | refine blk_drewN ?_ _ | refine blk_drew ?_ | refine blk_alloc ?_ _)); exact BK198.out) hb)
                          have n5_ := Aside0.mk (below_step (by repeat (first | (with_reducible first | exact HB.out | apply below_alloc | apply pw_below_drewN | apply below_drew1 | refine below_set ?_ GE197.out | refine below_set ?_ GE198.out) | exact HB.out)) hb)
                          clear HO_6
                          clear HO_8
                          clear BK197
                          clear BK198
                          clear HB
                          have HO_6 := n0_
                          have HO_8 := n1_
                          have HO204 := n2_
                          have BK197 := n3_
                          have BK198 := n4_
                          have HB := n5_
                          clear n0_ n1_ n2_ n3_ n4_ n5_
                          (try clear hb)
                          (try clear hb2)
                          (try clear hk)
                          (try clear hi)
                          (try clear ho0)
                          refine hK.out _ _ ⟨(blk_cell BK198.out 0).trans rfl, (blk_cell BK198.out 1).trans rfl⟩ (fun hHeld => ?_)
                          clear hK K
                          refine norm_ (a' := ?_) ?_ ?_
                          rotate_left
                          · show Act.put _ (some 51) _ = _
                            simp only [Act.put, List.setIfInBounds_toArray, List.set_cons_zero, List.set_cons_succ, i64_w, i32_w]
                            rfl
                          refine pure_ (i := 5) (N := some 46) (v := ?_) (a' := ?_) #[true, true, true, true, true, true, false, false, false, false, false] rfl rfl (any_of HT_.out (by kernel_rfl)) (fun _ _ _ h => h) (Or.inl ⟨by rfl, ?_⟩) ?_ ?_
                          rotate_left
                          · intro w'
                            go_simp
                            with_reducible rfl
                          rotate_left
                          · simp only [Act.put, List.setIfInBounds_toArray, List.set_cons_zero, List.set_cons_succ, i64_w, i32_w]
                            rfl
                          refine pure_ (i := 6) (N := some 52) (v := ?_) (a' := ?_) #[true, true, true, true, true, true, true, false, false, false, false] rfl rfl (any_of HT_.out (by kernel_rfl)) (fun _ _ _ h => h) (Or.inl ⟨by rfl, ?_⟩) ?_ ?_
                          rotate_left
                          · intro w'
                            go_simp
                            with_reducible rfl
                          rotate_left
                          · simp only [Act.put, List.setIfInBounds_toArray, List.set_cons_zero, List.set_cons_succ, i64_w, i32_w]
                            rfl
                          refine pure_ (i := 7) (N := some 53) (v := ?_) (a' := ?_) #[true, true, true, true, true, true, true, true, false, false, false] rfl rfl (any_of HT_.out (by kernel_rfl)) (fun _ _ _ h => h) (Or.inl ⟨by rfl, ?_⟩) ?_ ?_
                          rotate_left
                          · intro w'
                            go_simp
                            with_reducible rfl
                          rotate_left
                          · simp only [Act.put, List.setIfInBounds_toArray, List.set_cons_zero, List.set_cons_succ, i64_w, i32_w]
                            rfl
                          refine one_ (i := 8) (N := some 12) #[true, true, true, true, true, true, true, true, true, false, false] rfl rfl (one_of HT_.out (by kernel_rfl)) (by decide) (fun K hK => ?_)
                          refine box_step ?hg (N := 12) ?hd (cs := #[.string (⟨#[]⟩ : ByteArray), .bool false]) (t := 23) ?hr ?_; (case hd => rfl); (case hg => rfl); (case hr => first | (go_simp; done) | (go_simp; rfl))
                          intro gb205 hg w24 hbox hb
                          have n0_ := Aside0.mk (Kd.R_below (by (with_reducible repeat (first | apply Kd.R_alloc | apply Kd.R_drewN | apply Kd.R_drew)); exact HO_6.out) hb)
                          have n1_ := Aside0.mk (Kd.R_below (by (with_reducible repeat (first | apply Kd.R_alloc | apply Kd.R_drewN | apply Kd.R_drew)); exact HO_8.out) hb)
                          have n2_ := Aside0.mk (Kd.R_below (by (with_reducible repeat (first | apply Kd.R_alloc | apply Kd.R_drewN | apply Kd.R_drew)); exact HO204.out) hb)
                          have n3_ := Aside0.mk (blk_below (g := gb197) (o := .cells #[.string t192, .bool t193] 23 (0, 0)) (by (with_reducible repeat (first | refine blk_drewN ?_ _ | refine blk_drew ?_ | refine blk_alloc ?_ _)); exact BK197.out) hb)
                          have n4_ := Aside0.mk (blk_below (g := gb198) (o := .cells #[.string x199000_2, .bool x199001_2] 23 (0, 0)) (by (with_reducible repeat (first | refine blk_drewN ?_ _ | refine blk_drew ?_ | refine blk_alloc ?_ _)); exact BK198.out) hb)
                          have n5_ := Aside0.mk (below_step (by repeat (first | (with_reducible first | exact HB.out | apply below_alloc | apply pw_below_drewN | apply below_drew1 | refine below_set ?_ GE197.out | refine below_set ?_ GE198.out) | exact HB.out)) hb)
                          have n6_ := Aside0.mk (hbox)
                          have n7_ := Aside0.mk ((by rw [hg]; exact (below_size (by repeat (first | (with_reducible first | exact HB.out | apply below_alloc | apply pw_below_drewN | apply below_drew1 | refine below_set ?_ GE197.out | refine below_set ?_ GE198.out) | exact HB.out))) : w.heap.size ≤ gb205))
                          have n8_ := Aside0.mk ((by rw [hg]; exact (below_size (by repeat (first | (with_reducible first | exact HB.out | apply below_alloc | apply pw_below_drewN | apply below_drew1 | refine below_set ?_ GE197.out | refine below_set ?_ GE198.out) | exact HB.out))) : w.heap.size ≤ gb205))
                          have n9_ := Aside0.mk ((by rw [hg]; exact Nat.ne_of_lt (blk_lt (g := gb197) (o := .cells #[.string t192, .bool t193] 23 (0, 0)) (by (with_reducible repeat (first | refine blk_drewN ?_ _ | refine blk_drew ?_ | refine blk_alloc ?_ _)); exact BK197.out)) : gb197 ≠ gb205))
                          have n10_ := Aside0.mk ((by rw [hg]; exact Nat.ne_of_gt (blk_lt (g := gb197) (o := .cells #[.string t192, .bool t193] 23 (0, 0)) (by (with_reducible repeat (first | refine blk_drewN ?_ _ | refine blk_drew ?_ | refine blk_alloc ?_ _)); exact BK197.out)) : gb205 ≠ gb197))
                          have n11_ := Aside0.mk ((by rw [hg]; exact Nat.ne_of_lt (blk_lt (g := gb198) (o := .cells #[.string x199000_2, .bool x199001_2] 23 (0, 0)) (by (with_reducible repeat (first | refine blk_drewN ?_ _ | refine blk_drew ?_ | refine blk_alloc ?_ _)); exact BK198.out)) : gb198 ≠ gb205))
                          have n12_ := Aside0.mk ((by rw [hg]; exact Nat.ne_of_gt (blk_lt (g := gb198) (o := .cells #[.string x199000_2, .bool x199001_2] 23 (0, 0)) (by (with_reducible repeat (first | refine blk_drewN ?_ _ | refine blk_drew ?_ | refine blk_alloc ?_ _)); exact BK198.out)) : gb205 ≠ gb198))
                          clear HO_6
                          clear HO_8
                          clear HO204
                          clear BK197
                          clear BK198
                          clear HB
                          have HO_6 := n0_
                          have HO_8 := n1_
                          have HO204 := n2_
                          have BK197 := n3_
                          have BK198 := n4_
                          have HB := n5_
                          have BK205 := n6_
                          have GW205 := n7_
                          have GE205 := n8_
                          have NB197_205 := n9_
                          have NB205_197 := n10_
                          have NB198_205 := n11_
                          have NB205_198 := n12_
                          clear n0_ n1_ n2_ n3_ n4_ n5_ n6_ n7_ n8_ n9_ n10_ n11_ n12_
                          clear hb hbox hg
                          refine hK.out _ _ ⟨(blk_cell BK198.out 0).trans rfl, (blk_cell BK198.out 1).trans rfl⟩ (fun hHeld => ?_)
                          clear hK K
                          refine norm_ (a' := ?_) ?_ ?_
                          rotate_left
                          · show Act.put _ (some 12) _ = _
                            simp only [Act.put, List.setIfInBounds_toArray, List.set_cons_zero, List.set_cons_succ, i64_w, i32_w]
                            rfl
                          exact norm_ (by simp only [putAll, Act.put, List.setIfInBounds_toArray, List.set_cons_zero, List.set_cons_succ]) (hCont (v203, gb205) _ ⟨hHeld, (by (with_reducible repeat (first | apply Kd.R_alloc | apply Kd.R_drewN | apply Kd.R_drew)); exact Kd.R_mono HO204.out (fun _ hk => ⟨hk.1.2, hk.2⟩)), (by (with_reducible repeat (first | apply Kd.R_alloc | apply Kd.R_drewN | apply Kd.R_drew)); exact Kd.R_mono HO_6.out (fun _ hk => ⟨hk.2, hk.1⟩)), (by (with_reducible repeat (first | apply Kd.R_alloc | apply Kd.R_drewN | apply Kd.R_drew)); exact Kd.R_mono HO_8.out (fun _ hk => ⟨hk.2, hk.1⟩)), (by (with_reducible repeat (first | refine blk_drewN ?_ _ | refine blk_drew ?_ | refine blk_alloc ?_ _)); exact BK197.out), (by (with_reducible repeat (first | refine blk_drewN ?_ _ | refine blk_drew ?_ | refine blk_alloc ?_ _)); exact BK198.out), (by (with_reducible repeat (first | refine blk_drewN ?_ _ | refine blk_drew ?_ | refine blk_alloc ?_ _)); exact BK205.out), GW205.out, GE205.out, NB197_205.out, NB205_197.out, NB198_205.out, NB205_198.out, (by repeat (first | (with_reducible first | exact HB.out | apply below_alloc | apply pw_below_drewN | apply below_drew1 | refine below_set ?_ GE197.out | refine below_set ?_ GE198.out | refine below_set ?_ GE205.out) | exact HB.out))⟩)
                        · skip
                          refine box_step ?hg (N := 12) ?hd (cs := #[.string (⟨#[]⟩ : ByteArray), .bool false]) (t := 23) ?hr ?_; (case hd => rfl); (case hg => rfl); (case hr => first | (go_simp; done) | (go_simp; rfl))
                          intro gb205 hg w23 hbox hb
                          have n0_ := Aside0.mk (Kd.R_below (by (with_reducible repeat (first | apply Kd.R_alloc | apply Kd.R_drewN | apply Kd.R_drew)); exact HO_6.out) hb)
                          have n1_ := Aside0.mk (Kd.R_below (by (with_reducible repeat (first | apply Kd.R_alloc | apply Kd.R_drewN | apply Kd.R_drew)); exact HO_8.out) hb)
                          have n2_ := Aside0.mk (blk_below (g := gb197) (o := .cells #[.string t192, .bool t193] 23 (0, 0)) (by (with_reducible repeat (first | refine blk_drewN ?_ _ | refine blk_drew ?_ | refine blk_alloc ?_ _)); exact BK197.out) hb)
                          have n3_ := Aside0.mk (blk_below (g := gb198) (o := .cells #[.string x199000_2, .bool x199001_2] 23 (0, 0)) (by (with_reducible repeat (first | refine blk_drewN ?_ _ | refine blk_drew ?_ | refine blk_alloc ?_ _)); exact BK198.out) hb)
                          have n4_ := Aside0.mk (below_step (by repeat (first | (with_reducible first | exact HB.out | apply below_alloc | apply pw_below_drewN | apply below_drew1 | refine below_set ?_ GE197.out | refine below_set ?_ GE198.out) | exact HB.out)) hb)
                          have n5_ := Aside0.mk (hbox)
                          have n6_ := Aside0.mk ((by rw [hg]; exact (below_size (by repeat (first | (with_reducible first | exact HB.out | apply below_alloc | apply pw_below_drewN | apply below_drew1 | refine below_set ?_ GE197.out | refine below_set ?_ GE198.out) | exact HB.out))) : w.heap.size ≤ gb205))
                          have n7_ := Aside0.mk ((by rw [hg]; exact (below_size (by repeat (first | (with_reducible first | exact HB.out | apply below_alloc | apply pw_below_drewN | apply below_drew1 | refine below_set ?_ GE197.out | refine below_set ?_ GE198.out) | exact HB.out))) : w.heap.size ≤ gb205))
                          have n8_ := Aside0.mk ((by rw [hg]; exact Nat.ne_of_lt (blk_lt (g := gb197) (o := .cells #[.string t192, .bool t193] 23 (0, 0)) (by (with_reducible repeat (first | refine blk_drewN ?_ _ | refine blk_drew ?_ | refine blk_alloc ?_ _)); exact BK197.out)) : gb197 ≠ gb205))
                          have n9_ := Aside0.mk ((by rw [hg]; exact Nat.ne_of_gt (blk_lt (g := gb197) (o := .cells #[.string t192, .bool t193] 23 (0, 0)) (by (with_reducible repeat (first | refine blk_drewN ?_ _ | refine blk_drew ?_ | refine blk_alloc ?_ _)); exact BK197.out)) : gb205 ≠ gb197))
                          have n10_ := Aside0.mk ((by rw [hg]; exact Nat.ne_of_lt (blk_lt (g := gb198) (o := .cells #[.string x199000_2, .bool x199001_2] 23 (0, 0)) (by (with_reducible repeat (first | refine blk_drewN ?_ _ | refine blk_drew ?_ | refine blk_alloc ?_ _)); exact BK198.out)) : gb198 ≠ gb205))
                          have n11_ := Aside0.mk ((by rw [hg]; exact Nat.ne_of_gt (blk_lt (g := gb198) (o := .cells #[.string x199000_2, .bool x199001_2] 23 (0, 0)) (by (with_reducible repeat (first | refine blk_drewN ?_ _ | refine blk_drew ?_ | refine blk_alloc ?_ _)); exact BK198.out)) : gb205 ≠ gb198))
                          clear HO_6
                          clear HO_8
                          clear BK197
                          clear BK198
                          clear HB
                          have HO_6 := n0_
                          have HO_8 := n1_
                          have BK197 := n2_
                          have BK198 := n3_
                          have HB := n4_
                          have BK205 := n5_
                          have GW205 := n6_
                          have GE205 := n7_
                          have NB197_205 := n8_
                          have NB205_197 := n9_
                          have NB198_205 := n10_
                          have NB205_198 := n11_
                          clear n0_ n1_ n2_ n3_ n4_ n5_ n6_ n7_ n8_ n9_ n10_ n11_
                          clear hb hbox hg
                          refine hK.out _ _ ⟨(blk_cell BK198.out 0).trans rfl, (blk_cell BK198.out 1).trans rfl⟩ (fun hHeld => ?_)
                          clear hK K
                          refine norm_ (a' := ?_) ?_ ?_
                          rotate_left
                          · show Act.put _ (some 12) _ = _
                            simp only [Act.put, List.setIfInBounds_toArray, List.set_cons_zero, List.set_cons_succ, i64_w, i32_w]
                            rfl
                          refine one_ (i := 4) (N := some 51) #[true, true, true, true, true, false, false, false, true, false, false] rfl rfl (one_of HT_.out (by kernel_rfl)) (by decide) (fun K hK => ?_)
                          refine goes_ Try.func9 (by kernel_rfl) rfl #[.agg #[.string x199000_2, .bool x199001_2], .string (x9_2.extract 0 ((ji15) : Int).toNat)] (by rfl) rfl rfl (by (try simp only [List.map_toArray, List.map_cons, List.map_nil]); first | done | (simp only [hji15]; rfl) | rfl | (simp only [List.length_drop, List.length_take]; rfl)) ?_
                          with_reducible refine (stream_Push.calls k2 x199000_2 x199001_2 (x9_2.extract 0 ((ji15) : Int).toNat) t200 t201 t202 _ A18.out).mono ?_
                          rintro e w24 ⟨v203, rfl, ho0, hb⟩
                          refine ⟨_, rfl, ?_⟩
                          have n0_ := Aside0.mk (Kd.R_elder' (by (with_reducible repeat (first | apply Kd.R_alloc | apply Kd.R_drewN | apply Kd.R_drew)); exact HO_6.out) (Kd.R_base ho0) hb)
                          have n1_ := Aside0.mk (Kd.R_elder' (by (with_reducible repeat (first | apply Kd.R_alloc | apply Kd.R_drewN | apply Kd.R_drew)); exact HO_8.out) (Kd.R_base ho0) hb)
                          have n2_ := Aside0.mk (Kd.R_lower (Kd.R_new' (Kd.R_new' ho0 (Kd.R_lt (by (with_reducible repeat (first | apply Kd.R_alloc | apply Kd.R_drewN | apply Kd.R_drew)); exact HO_6.out))) (Kd.R_lt (by (with_reducible repeat (first | apply Kd.R_alloc | apply Kd.R_drewN | apply Kd.R_drew)); exact HO_8.out))) (below_size (by repeat (first | (with_reducible first | exact HB.out | apply below_alloc | apply pw_below_drewN | apply below_drew1 | refine below_set ?_ GE197.out | refine below_set ?_ GE198.out | refine below_set ?_ GE205.out) | exact HB.out))))
                          have n3_ := Aside0.mk (blk_below (g := gb197) (o := .cells #[.string t192, .bool t193] 23 (0, 0)) (by (with_reducible repeat (first | refine blk_drewN ?_ _ | refine blk_drew ?_ | refine blk_alloc ?_ _)); exact BK197.out) hb)
                          have n4_ := Aside0.mk (blk_below (g := gb198) (o := .cells #[.string x199000_2, .bool x199001_2] 23 (0, 0)) (by (with_reducible repeat (first | refine blk_drewN ?_ _ | refine blk_drew ?_ | refine blk_alloc ?_ _)); exact BK198.out) hb)
                          have n5_ := Aside0.mk (blk_below (g := gb205) (o := .cells #[.string (⟨#[]⟩ : ByteArray), .bool false] 23 (0, 0)) (by (with_reducible repeat (first | refine blk_drewN ?_ _ | refine blk_drew ?_ | refine blk_alloc ?_ _)); exact BK205.out) hb)
                          have n6_ := Aside0.mk (below_step (by repeat (first | (with_reducible first | exact HB.out | apply below_alloc | apply pw_below_drewN | apply below_drew1 | refine below_set ?_ GE197.out | refine below_set ?_ GE198.out | refine below_set ?_ GE205.out) | exact HB.out)) hb)
                          clear HO_6
                          clear HO_8
                          clear BK197
                          clear BK198
                          clear BK205
                          clear HB
                          have HO_6 := n0_
                          have HO_8 := n1_
                          have HO204 := n2_
                          have BK197 := n3_
                          have BK198 := n4_
                          have BK205 := n5_
                          have HB := n6_
                          clear n0_ n1_ n2_ n3_ n4_ n5_ n6_
                          (try clear hb)
                          (try clear hb2)
                          (try clear hk)
                          (try clear hi)
                          (try clear ho0)
                          refine hK.out _ _ ⟨(blk_cell BK198.out 0).trans rfl, (blk_cell BK198.out 1).trans rfl⟩ (fun hHeld => ?_)
                          clear hK K
                          refine norm_ (a' := ?_) ?_ ?_
                          rotate_left
                          · show Act.put _ (some 51) _ = _
                            simp only [Act.put, List.setIfInBounds_toArray, List.set_cons_zero, List.set_cons_succ, i64_w, i32_w]
                            rfl
                          refine pure_ (i := 5) (N := some 46) (v := ?_) (a' := ?_) #[true, true, true, true, true, true, false, false, true, false, false] rfl rfl (any_of HT_.out (by kernel_rfl)) (fun _ _ _ h => h) (Or.inl ⟨by rfl, ?_⟩) ?_ ?_
                          rotate_left
                          · intro w'
                            go_simp
                            with_reducible rfl
                          rotate_left
                          · simp only [Act.put, List.setIfInBounds_toArray, List.set_cons_zero, List.set_cons_succ, i64_w, i32_w]
                            rfl
                          refine pure_ (i := 6) (N := some 52) (v := ?_) (a' := ?_) #[true, true, true, true, true, true, true, false, true, false, false] rfl rfl (any_of HT_.out (by kernel_rfl)) (fun _ _ _ h => h) (Or.inl ⟨by rfl, ?_⟩) ?_ ?_
                          rotate_left
                          · intro w'
                            go_simp
                            with_reducible rfl
                          rotate_left
                          · simp only [Act.put, List.setIfInBounds_toArray, List.set_cons_zero, List.set_cons_succ, i64_w, i32_w]
                            rfl
                          refine pure_ (i := 7) (N := some 53) (v := ?_) (a' := ?_) #[true, true, true, true, true, true, true, true, true, false, false] rfl rfl (any_of HT_.out (by kernel_rfl)) (fun _ _ _ h => h) (Or.inl ⟨by rfl, ?_⟩) ?_ ?_
                          rotate_left
                          · intro w'
                            go_simp
                            with_reducible rfl
                          rotate_left
                          · simp only [Act.put, List.setIfInBounds_toArray, List.set_cons_zero, List.set_cons_succ, i64_w, i32_w]
                            rfl
                          exact norm_ (by simp only [putAll, Act.put, List.setIfInBounds_toArray, List.set_cons_zero, List.set_cons_succ]) (hCont (v203, gb205) _ ⟨hHeld, (by (with_reducible repeat (first | apply Kd.R_alloc | apply Kd.R_drewN | apply Kd.R_drew)); exact Kd.R_mono HO204.out (fun _ hk => ⟨hk.1.2, hk.2⟩)), (by (with_reducible repeat (first | apply Kd.R_alloc | apply Kd.R_drewN | apply Kd.R_drew)); exact Kd.R_mono HO_6.out (fun _ hk => ⟨hk.2, hk.1⟩)), (by (with_reducible repeat (first | apply Kd.R_alloc | apply Kd.R_drewN | apply Kd.R_drew)); exact Kd.R_mono HO_8.out (fun _ hk => ⟨hk.2, hk.1⟩)), (by (with_reducible repeat (first | refine blk_drewN ?_ _ | refine blk_drew ?_ | refine blk_alloc ?_ _)); exact BK197.out), (by (with_reducible repeat (first | refine blk_drewN ?_ _ | refine blk_drew ?_ | refine blk_alloc ?_ _)); exact BK198.out), (by (with_reducible repeat (first | refine blk_drewN ?_ _ | refine blk_drew ?_ | refine blk_alloc ?_ _)); exact BK205.out), GW205.out, GE205.out, NB197_205.out, NB205_197.out, NB198_205.out, NB205_198.out, (by repeat (first | (with_reducible first | exact HB.out | apply below_alloc | apply pw_below_drewN | apply below_drew1 | refine below_set ?_ GE197.out | refine below_set ?_ GE198.out | refine below_set ?_ GE205.out) | exact HB.out))⟩)
                      rintro ⟨v203, gb205⟩ w25 ⟨hS_, h0_, h1_, h2_, h3_, h4_, h5_, h6_, h7_, h8_, h9_, h10_, h11_, h12_⟩
                      have n0_ : Aside0 (Kd.R k34 34 w25 w.heap.size (fun k_ => some k_ ≠ (v195 : Value).ownBlock ∧ some k_ ≠ (u8 : Value).ownBlock) v203 t202) := ⟨h0_⟩
                      have n1_ : Aside0 (Kd.R k34 34 w25 w.heap.size (fun k_ => some k_ ≠ (v203 : Value).ownBlock ∧ some k_ ≠ (u8 : Value).ownBlock) v195 t194) := ⟨h1_⟩
                      have n2_ : Aside0 (Kd.R k34 34 w25 w.heap.size (fun k_ => some k_ ≠ (v203 : Value).ownBlock ∧ some k_ ≠ (v195 : Value).ownBlock) u8 x8_2) := ⟨h2_⟩
                      have n3_ : Aside0 (w25.heap[gb197]? = some (.cells #[.string t192, .bool t193] 23 (0, 0))) := ⟨h3_⟩
                      have n4_ : Aside0 (w25.heap[gb198]? = some (.cells #[.string x199000_2, .bool x199001_2] 23 (0, 0))) := ⟨h4_⟩
                      have n5_ : Aside0 (w25.heap[gb205]? = some (.cells #[.string (⟨#[]⟩ : ByteArray), .bool false] 23 (0, 0))) := ⟨h5_⟩
                      have n6_ : Aside0 (w.heap.size ≤ gb205) := ⟨h6_⟩
                      have n7_ : Aside0 (w.heap.size ≤ gb205) := ⟨h7_⟩
                      have n8_ : Aside0 (gb197 ≠ gb205) := ⟨h8_⟩
                      have n9_ : Aside0 (gb205 ≠ gb197) := ⟨h9_⟩
                      have n10_ : Aside0 (gb198 ≠ gb205) := ⟨h10_⟩
                      have n11_ : Aside0 (gb205 ≠ gb198) := ⟨h11_⟩
                      have n12_ : Aside0 (Below w.heap.size w w25) := ⟨h12_⟩
                      clear HO_6
                      clear HO_8
                      clear BK197
                      clear BK198
                      clear HB
                      clear h0_ h1_ h2_ h3_ h4_ h5_ h6_ h7_ h8_ h9_ h10_ h11_ h12_
                      have HO204 := n0_
                      have HO_6 := n1_
                      have HO_8 := n2_
                      have BK197 := n3_
                      have BK198 := n4_
                      have BK205 := n5_
                      have GW205 := n6_
                      have GE205 := n7_
                      have NB197_205 := n8_
                      have NB205_197 := n9_
                      have NB198_205 := n10_
                      have NB205_198 := n11_
                      have HB := n12_
                      clear n0_ n1_ n2_ n3_ n4_ n5_ n6_ n7_ n8_ n9_ n10_ n11_ n12_
                      have hHeld : w25.cell? ⟨gb198, 0, none⟩ = some (.string x199000_2) ∧ w25.cell? ⟨gb198, 1, none⟩ = some (.bool x199001_2) := hS_
                      refine norm_ (a' := ?_) ?_ ?_
                      rotate_left
                      · simp only [putAll, Act.put, List.setIfInBounds_toArray, List.set_cons_zero, List.set_cons_succ]
                        rfl
                      refine one_ (i := 9) (N := none) #[true, true, true, true, true, true, true, true, true, true, false] rfl rfl (one_of HT_.out (by kernel_rfl)) (by decide) (fun K hK => ?_)
                      have hs26 : w25.cell? ⟨gb205, 0, none⟩ = some (.string (⟨#[]⟩ : ByteArray)) := (blk_cell BK205.out 0).trans rfl
                      have hfs26 := blk_frozen BK205.out 0
                      have hns26_0 := NB197_205.out
                      have hns26_1 := NB198_205.out
                      have hms26_0 := NB205_197.out
                      have hms26_1 := NB205_198.out
                      have hs27 : w25.cell? ⟨gb205, 1, none⟩ = some (.bool false) := (blk_cell BK205.out 1).trans rfl
                      have hfs27 := blk_frozen BK205.out 1
                      have hns27_0 := NB197_205.out
                      have hns27_1 := NB198_205.out
                      have hms27_0 := NB205_197.out
                      have hms27_1 := NB205_198.out
                      refine skip_ (w1 := ?_) (by rfl) rfl ?_ ?_
                      rotate_left
                      · go_simp
                        rfl
                      refine hK.out _ _ ⟨((cell_far (p := ⟨gb205, _, none⟩) NB198_205.out _).trans (((cell_far (p := ⟨gb205, _, none⟩) NB198_205.out _).trans (hHeld.1)))), ((cell_far (p := ⟨gb205, _, none⟩) NB198_205.out _).trans (((cell_far (p := ⟨gb205, _, none⟩) NB198_205.out _).trans (hHeld.2))))⟩ (fun hHeld => ?_)
                      clear hK K
                      refine pure_ (i := 10) (N := some 13) (v := ?_) (a' := ?_) #[true, true, true, true, true, true, true, true, true, true, true] rfl rfl (any_of HT_.out (by kernel_rfl)) (fun _ _ _ h => h) (Or.inl ⟨by rfl, ?_⟩) ?_ ?_
                      rotate_left
                      · intro w'
                        go_simp
                        with_reducible rfl
                      rotate_left
                      · simp only [Act.put, List.setIfInBounds_toArray, List.set_cons_zero, List.set_cons_succ, i64_w, i32_w]
                        rfl
                      refine done_ (done_of HT_.out (by kernel_rfl)) ?_
                      try go_wp2
                      have n0_ : Aside0 (Kd.R k34 34 ((w25.setCell ⟨gb205, 0, none⟩ (.string t200)).setCell ⟨gb205, 1, none⟩ (.bool t201)) w.heap.size (fun k_ => some k_ ≠ (u8 : Value).ownBlock ∧ some k_ ≠ (v203 : Value).ownBlock) v195 t194) := ⟨by (with_reducible repeat (first | apply Kd.R_alloc | apply Kd.R_drewN | apply Kd.R_drew)); exact Kd.R_mono (Kd.R_far (p := ⟨gb205, 1, none⟩) (Kd.R_far (p := ⟨gb205, 0, none⟩) (Kd.R_types HO_6.out BK205.out (by decide)) (fun _ hk => hk.2) (.string t200)) (fun _ hk => hk.2) (.bool t201)) (fun _ hk => ⟨hk.1.2, hk.1.1⟩)⟩
                      have n1_ : Aside0 (Kd.R k34 34 ((w25.setCell ⟨gb205, 0, none⟩ (.string t200)).setCell ⟨gb205, 1, none⟩ (.bool t201)) w.heap.size (fun k_ => some k_ ≠ (v195 : Value).ownBlock ∧ some k_ ≠ (v203 : Value).ownBlock) u8 x8_2) := ⟨by (with_reducible repeat (first | apply Kd.R_alloc | apply Kd.R_drewN | apply Kd.R_drew)); exact Kd.R_mono (Kd.R_far (p := ⟨gb205, 1, none⟩) (Kd.R_far (p := ⟨gb205, 0, none⟩) (Kd.R_types HO_8.out BK205.out (by decide)) (fun _ hk => hk.2) (.string t200)) (fun _ hk => hk.2) (.bool t201)) (fun _ hk => ⟨hk.1.2, hk.1.1⟩)⟩
                      have n2_ : Aside0 (Kd.R k34 34 ((w25.setCell ⟨gb205, 0, none⟩ (.string t200)).setCell ⟨gb205, 1, none⟩ (.bool t201)) w.heap.size (fun k_ => some k_ ≠ (v195 : Value).ownBlock ∧ some k_ ≠ (u8 : Value).ownBlock) v203 t202) := ⟨by (with_reducible repeat (first | apply Kd.R_alloc | apply Kd.R_drewN | apply Kd.R_drew)); exact Kd.R_mono (Kd.R_far (p := ⟨gb205, 1, none⟩) (Kd.R_far (p := ⟨gb205, 0, none⟩) (Kd.R_types HO204.out BK205.out (by decide)) (fun _ hk => hk.2) (.string t200)) (fun _ hk => hk.2) (.bool t201)) (fun _ hk => ⟨hk.1.1, hk.1.2⟩)⟩
                      have n3_ : Aside0 (((w25.setCell ⟨gb205, 0, none⟩ (.string t200)).setCell ⟨gb205, 1, none⟩ (.bool t201)).heap[gb197]? = some (.cells #[.string t192, .bool t193] 23 (0, 0))) := ⟨by (with_reducible repeat (first | refine blk_drewN ?_ _ | refine blk_drew ?_ | refine blk_alloc ?_ _)); refine blk_far ?_ NB197_205.out _; (with_reducible repeat (first | refine blk_drewN ?_ _ | refine blk_drew ?_ | refine blk_alloc ?_ _)); refine blk_far ?_ NB197_205.out _; (with_reducible repeat (first | refine blk_drewN ?_ _ | refine blk_drew ?_ | refine blk_alloc ?_ _)); exact BK197.out⟩
                      have n4_ : Aside0 (((w25.setCell ⟨gb205, 0, none⟩ (.string t200)).setCell ⟨gb205, 1, none⟩ (.bool t201)).heap[gb198]? = some (.cells #[.string x199000_2, .bool x199001_2] 23 (0, 0))) := ⟨by (with_reducible repeat (first | refine blk_drewN ?_ _ | refine blk_drew ?_ | refine blk_alloc ?_ _)); refine blk_far ?_ NB198_205.out _; (with_reducible repeat (first | refine blk_drewN ?_ _ | refine blk_drew ?_ | refine blk_alloc ?_ _)); refine blk_far ?_ NB198_205.out _; (with_reducible repeat (first | refine blk_drewN ?_ _ | refine blk_drew ?_ | refine blk_alloc ?_ _)); exact BK198.out⟩
                      have n5_ : Aside0 (((w25.setCell ⟨gb205, 0, none⟩ (.string t200)).setCell ⟨gb205, 1, none⟩ (.bool t201)).heap[gb205]? = some (.cells #[.string t200, .bool t201] 23 (0, 0))) := ⟨by (with_reducible repeat (first | refine blk_drewN ?_ _ | refine blk_drew ?_ | refine blk_alloc ?_ _)); refine blk_put (cs := #[.string t200, .bool false]) ?_ 1 _ rfl; (with_reducible repeat (first | refine blk_drewN ?_ _ | refine blk_drew ?_ | refine blk_alloc ?_ _)); refine blk_put (cs := #[.string (⟨#[]⟩ : ByteArray), .bool false]) ?_ 0 _ rfl; (with_reducible repeat (first | refine blk_drewN ?_ _ | refine blk_drew ?_ | refine blk_alloc ?_ _)); exact BK205.out⟩
                      have n6_ : Aside0 (Below w.heap.size w ((w25.setCell ⟨gb205, 0, none⟩ (.string t200)).setCell ⟨gb205, 1, none⟩ (.bool t201))) := ⟨by repeat (first | (with_reducible first | exact HB.out | apply below_alloc | apply pw_below_drewN | apply below_drew1 | refine below_set ?_ GE197.out | refine below_set ?_ GE198.out | refine below_set ?_ GE205.out) | exact HB.out)⟩
                      (try clear HO_6)
                      (try clear HO_8)
                      (try clear HO204)
                      (try clear BK197)
                      (try clear BK198)
                      (try clear BK205)
                      (try clear HB)
                      generalize ((w25.setCell ⟨gb205, 0, none⟩ (.string t200)).setCell ⟨gb205, 1, none⟩ (.bool t201)) = w28 at n0_ n1_ n2_ n3_ n4_ n5_ n6_ ⊢
                      have HO_6 := n0_
                      have HO_8 := n1_
                      have HO204 := n2_
                      have BK197 := n3_
                      have BK198 := n4_
                      have BK205 := n5_
                      have HB := n6_
                      clear n0_ n1_ n2_ n3_ n4_ n5_ n6_
                      have n0_ := Aside0.mk (Kd.R_drew HO_6.out)
                      have n1_ := Aside0.mk (Kd.R_drew HO_8.out)
                      have n2_ := Aside0.mk (Kd.R_drew HO204.out)
                      have n3_ := Aside0.mk (blk_drew BK197.out)
                      have n4_ := Aside0.mk (blk_drew BK198.out)
                      have n5_ := Aside0.mk (blk_drew BK205.out)
                      have n6_ := Aside0.mk (below_drew1 HB.out)
                      clear HO_6
                      clear HO_8
                      clear HO204
                      clear BK197
                      clear BK198
                      clear BK205
                      clear HB
                      have HO_6 := n0_
                      have HO_8 := n1_
                      have HO204 := n2_
                      have BK197 := n3_
                      have BK198 := n4_
                      have BK205 := n5_
                      have HB := n6_
                      clear n0_ n1_ n2_ n3_ n4_ n5_ n6_
                      obtain ⟨Ao31, co31, eo31⟩ := Kd.R_slice HO204.out
                      (first | subst eo31 | (injection eo31 with f1_ f2_ f3_; have f4_ := f1_.symm; have f5_ := f3_.symm; clear f1_ f2_ f3_; subst f4_; subst f5_))
                      refine start_ (n := 10) (S := fun w' => w'.cell? ⟨gb205, 0, none⟩ = some (.string t200) ∧ w'.cell? ⟨gb205, 1, none⟩ = some (.bool t201)) (ds := []) #[false, false, false, false, false, false, false, false, false, false] (by kernel_rfl) rfl rfl ⟨(blk_cell BK205.out 0).trans rfl, (blk_cell BK205.out 1).trans rfl⟩ (fun hHeld => ?_); refine with_tabW law09_StreamCuts.tab12 law09_StreamCuts.bits12 (fun HT_ HW_ => ?_)
                      generalize w28.drew = w29 at HO_6 HO_8 HO204 BK197 BK198 BK205 HB hHeld ⊢
                      refine pure_ (i := 1) (N := some 55) (v := ?_) (a' := ?_) #[false, true, false, false, false, false, false, false, false, false] rfl rfl (any_of HT_.out (by kernel_rfl)) (fun _ _ _ h => h) (Or.inl ⟨by rfl, ?_⟩) ?_ ?_
                      rotate_left
                      · intro w'
                        go_simp
                        with_reducible rfl
                      rotate_left
                      · simp only [Act.put, List.setIfInBounds_toArray, List.set_cons_zero, List.set_cons_succ, i64_w, i32_w]
                        rfl
                      refine pure_ (i := 2) (N := some 56) (v := ?_) (a' := ?_) #[false, true, true, false, false, false, false, false, false, false] rfl rfl (any_of HT_.out (by kernel_rfl)) (fun _ _ _ h => h) (Or.inl ⟨by rfl, ?_⟩) ?_ ?_
                      rotate_left
                      · intro w'
                        go_simp
                        with_reducible rfl
                      rotate_left
                      · simp only [Act.put, List.setIfInBounds_toArray, List.set_cons_zero, List.set_cons_succ, i64_w, i32_w]
                        rfl
                      refine pure_ (i := 4) (N := some 58) (v := ?_) (a' := ?_) #[false, true, true, false, true, false, false, false, false, false] rfl rfl (any_of HT_.out (by kernel_rfl)) (fun _ _ _ h => h) (Or.inl ⟨by rfl, ?_⟩) ?_ ?_
                      rotate_left
                      · intro w'
                        go_simp
                        with_reducible rfl
                      rotate_left
                      · simp only [Act.put, List.setIfInBounds_toArray, List.set_cons_zero, List.set_cons_succ, i64_w, i32_w]
                        rfl
                      refine pure_ (i := 5) (N := some 59) (v := ?_) (a' := ?_) #[false, true, true, false, true, true, false, false, false, false] rfl rfl (any_of HT_.out (by kernel_rfl)) (fun _ _ _ h => h) (Or.inl ⟨by rfl, ?_⟩) ?_ ?_
                      rotate_left
                      · intro w'
                        go_simp
                        with_reducible rfl
                      rotate_left
                      · simp only [Act.put, List.setIfInBounds_toArray, List.set_cons_zero, List.set_cons_succ, i64_w, i32_w]
                        rfl
                      refine pure_ (i := 6) (N := some 60) (v := ?_) (a' := ?_) #[false, true, true, false, true, true, true, false, false, false] rfl rfl (any_of HT_.out (by kernel_rfl)) (fun _ _ _ h => h) (Or.inl ⟨by rfl, ?_⟩) ?_ ?_
                      rotate_left
                      · intro w'
                        go_simp
                        with_reducible rfl
                      rotate_left
                      · simp only [Act.put, List.setIfInBounds_toArray, List.set_cons_zero, List.set_cons_succ, i64_w, i32_w]
                        rfl
                      refine take_ (i := 0) (N := some 54) (v := ?_) (a' := ?_) #[true, true, true, false, true, true, true, false, false, false] rfl rfl (take_ofW HT_.out HW_.out (by kernel_rfl)) (fun _ _ _ h => h) (Or.inl ⟨by rfl, ?_⟩) hHeld ?_ ?_
                      rotate_left
                      · rintro w' ⟨s0, s1⟩
                        go_simp
                        with_reducible rfl
                      rotate_left
                      · simp only [Act.put, List.setIfInBounds_toArray, List.set_cons_zero, List.set_cons_succ, i64_w, i32_w]
                        rfl
                      refine one_ (i := 3) (N := some 57) #[true, true, true, true, true, true, true, false, false, false] rfl rfl (one_of HT_.out (by kernel_rfl)) (by decide) (fun K hK => ?_)
                      refine Kd.R_append_rows_step k34 (w0 := w) w.heap.size (by rfl) (.tmp 55) (.tmp 56) 26 34 (.agg #[(.int .i64 0), (.int .i64 0), (.string ⟨#[]⟩)]) 32 rfl Try.underlying26 info34 rfl (by decide) (by omega) u8 x8_2 t202 _ _ _ (fun k_ => some k_ ≠ (v195 : Value).ownBlock ∧ some k_ ≠ (.slice Ao31 t202.length co31 : Value).ownBlock) (fun _ => False) rfl rfl ?aO ?aR (fun _ _ h => h) (fun _ h => h.elim) ?aF ?aB ?aS ?aL ?_
                      (case aR => repeat (first | exact (Kd.R_reads' HO204.out).2.2 | (with_reducible refine Kd.C_alloc ?_ _) | (with_reducible refine Kd.C_drewN ?_ _) | (with_reducible refine Kd.C_drew ?_)))
                      (case aB => exact (by repeat (first | (with_reducible first | exact HB.out | apply below_alloc | apply pw_below_drewN | apply below_drew1 | refine below_set ?_ GE197.out | refine below_set ?_ GE198.out | refine below_set ?_ GE205.out) | exact HB.out)))
                      (case aF => exact (fun k_ hk => ⟨Kd.fresh' (Kd.R_lt (by (with_reducible repeat (first | apply Kd.R_alloc | apply Kd.R_drewN | apply Kd.R_drew)); exact HO_6.out)) k_ hk, Kd.fresh' (Kd.R_lt (by (with_reducible repeat (first | apply Kd.R_alloc | apply Kd.R_drewN | apply Kd.R_drew)); exact HO204.out)) k_ hk⟩))
                      (case aO => exact (by (with_reducible repeat (first | apply Kd.R_alloc | apply Kd.R_drewN | apply Kd.R_drew)); exact HO_8.out))
                      (case aS => exact (below_size (by repeat (first | (with_reducible first | exact HB.out | apply below_alloc | apply pw_below_drewN | apply below_drew1 | refine below_set ?_ GE197.out | refine below_set ?_ GE198.out | refine below_set ?_ GE205.out) | exact HB.out))))
                      (case aL => have := LMc19.out; omega)
                      intro v207 w30 ho hb hg hat
                      rw [← Ny206.out] at ho
                      have n0_ := Aside0.mk (Kd.R_after (ok := (fun k_ => some k_ ≠ (.slice Ao31 t202.length co31 : Value).ownBlock)) (by (with_reducible repeat (first | apply Kd.R_alloc | apply Kd.R_drewN | apply Kd.R_drew)); exact Kd.R_mono HO_6.out (fun _ hk => ⟨hk.2, hk.1⟩)) hg hat)
                      have n1_ := Aside0.mk (blk_grown (g := gb197) (o := .cells #[.string t192, .bool t193] 23 (0, 0)) (by (with_reducible repeat (first | refine blk_drewN ?_ _ | refine blk_drew ?_ | refine blk_alloc ?_ _)); exact BK197.out) hg (Kd.R_ne HO_8.out BK197.out (by decide)))
                      have n2_ := Aside0.mk (blk_grown (g := gb198) (o := .cells #[.string x199000_2, .bool x199001_2] 23 (0, 0)) (by (with_reducible repeat (first | refine blk_drewN ?_ _ | refine blk_drew ?_ | refine blk_alloc ?_ _)); exact BK198.out) hg (Kd.R_ne HO_8.out BK198.out (by decide)))
                      have n3_ := Aside0.mk (Kd.R_after (ok := (fun k_ => some k_ ≠ (v195 : Value).ownBlock)) (by (with_reducible repeat (first | apply Kd.R_alloc | apply Kd.R_drewN | apply Kd.R_drew)); exact HO204.out) hg hat)
                      have n4_ := Aside0.mk (blk_grown (g := gb205) (o := .cells #[.string t200, .bool t201] 23 (0, 0)) (by (with_reducible repeat (first | refine blk_drewN ?_ _ | refine blk_drew ?_ | refine blk_alloc ?_ _)); exact BK205.out) hg (Kd.R_ne HO_8.out BK205.out (by decide)))
                      have n5_ := Aside0.mk (hb)
                      have n6_ := Aside0.mk (ho)
                      clear HO_6
                      clear BK197
                      clear BK198
                      clear HO204
                      clear BK205
                      clear HB
                      clear HO_8
                      have HO_6 := n0_
                      have BK197 := n1_
                      have BK198 := n2_
                      have HO204 := n3_
                      have BK205 := n4_
                      have HB := n5_
                      have HO208 := n6_
                      clear n0_ n1_ n2_ n3_ n4_ n5_ n6_
                      clear ho hb hg hat
                      refine hK.out _ _ ⟨(blk_cell BK205.out 0).trans rfl, (blk_cell BK205.out 1).trans rfl⟩ (fun hHeld => ?_)
                      clear hK K
                      refine norm_ (a' := ?_) ?_ ?_
                      rotate_left
                      · show Act.put _ (some 57) _ = _
                        simp only [Act.put, List.setIfInBounds_toArray, List.set_cons_zero, List.set_cons_succ, i64_w, i32_w]
                        rfl
                      refine one_ (i := 7) (N := none) #[true, true, true, true, true, true, true, true, false, false] rfl rfl (one_of HT_.out (by kernel_rfl)) (by decide) (fun K hK => ?_)
                      have hs32 : w30.cell? ⟨gb198, 0, none⟩ = some (.string x199000_2) := (blk_cell BK198.out 0).trans rfl
                      have hfs32 := blk_frozen BK198.out 0
                      have hns32_0 := NB197_198.out
                      have hns32_2 := NB205_198.out
                      have hms32_0 := NB198_197.out
                      have hms32_2 := NB198_205.out
                      have hs33 : w30.cell? ⟨gb198, 1, none⟩ = some (.bool x199001_2) := (blk_cell BK198.out 1).trans rfl
                      have hfs33 := blk_frozen BK198.out 1
                      have hns33_0 := NB197_198.out
                      have hns33_2 := NB205_198.out
                      have hms33_0 := NB198_197.out
                      have hms33_2 := NB198_205.out
                      refine skip_ (w1 := ?_) (by rfl) rfl ?_ ?_
                      rotate_left
                      · go_simp
                        rfl
                      refine hK.out _ _ ⟨((cell_far (p := ⟨gb198, _, none⟩) NB205_198.out _).trans (((cell_far (p := ⟨gb198, _, none⟩) NB205_198.out _).trans (hHeld.1)))), ((cell_far (p := ⟨gb198, _, none⟩) NB205_198.out _).trans (((cell_far (p := ⟨gb198, _, none⟩) NB205_198.out _).trans (hHeld.2))))⟩ (fun hHeld => ?_)
                      clear hK K
                      refine pure_ (i := 8) (N := some 8) (v := ?_) (a' := ?_) #[true, true, true, true, true, true, true, true, true, false] rfl rfl (any_of HT_.out (by kernel_rfl)) (fun _ _ _ h => h) (Or.inl ⟨by rfl, ?_⟩) ?_ ?_
                      rotate_left
                      · intro w'
                        go_simp
                        with_reducible rfl
                      rotate_left
                      · simp only [Act.put, List.setIfInBounds_toArray, List.set_cons_zero, List.set_cons_succ, i64_w, i32_w]
                        rfl
                      refine pure_ (i := 9) (N := some 9) (v := ?_) (a' := ?_) #[true, true, true, true, true, true, true, true, true, true] rfl rfl (any_of HT_.out (by kernel_rfl)) (fun _ _ _ h => h) (Or.inl ⟨by rfl, ?_⟩) ?_ ?_
                      rotate_left
                      · intro w'
                        go_simp
                        with_reducible rfl
                      rotate_left
                      · simp only [Act.put, List.setIfInBounds_toArray, List.set_cons_zero, List.set_cons_succ, i64_w, i32_w]
                        rfl
                      refine done_ (done_of HT_.out (by kernel_rfl)) ?_
                      try go_wp2
                      go_roundg k2
                      case measure => have := HJ2.out; have := HK2.out; omega
                      case rel => exact ⟨(y206), (x9_2.extract ((ji15) : Int).toNat x9_2.size), (wrap64 (x10_2 + 1)), (t200), (t201), (by first | rfl | (simp; done) | (simp only [← hji15] <;> (first | rfl | simp)) | (simp [*]; done)), (by first | rfl | (simp; done) | (simp [*]; done)), H', ⟨by have := HJ2.out; have := HK2.out; omega⟩, ⟨by (with_reducible repeat (first | apply Kd.R_alloc | apply Kd.R_drewN | apply Kd.R_drew)); exact Kd.R_mono (Kd.R_far (p := ⟨gb198, 1, none⟩) (Kd.R_far (p := ⟨gb198, 0, none⟩) (Kd.R_types HO_6.out BK198.out (by decide)) (fun _ hk => hk.2) (.string t200)) (fun _ hk => hk.2) (.bool t201)) (fun _ hk => hk.1.2)⟩, ⟨by (with_reducible repeat (first | apply Kd.R_alloc | apply Kd.R_drewN | apply Kd.R_drew)); exact Kd.R_mono (Kd.R_far (p := ⟨gb198, 1, none⟩) (Kd.R_far (p := ⟨gb198, 0, none⟩) (Kd.R_types HO208.out BK198.out (by decide)) (fun _ hk => hk.2) (.string t200)) (fun _ hk => hk.2) (.bool t201)) (fun _ hk => hk.1.1)⟩, ⟨by (with_reducible repeat (first | refine blk_drewN ?_ _ | refine blk_drew ?_ | refine blk_alloc ?_ _)); refine blk_far ?_ NB197_198.out _; (with_reducible repeat (first | refine blk_drewN ?_ _ | refine blk_drew ?_ | refine blk_alloc ?_ _)); refine blk_far ?_ NB197_198.out _; (with_reducible repeat (first | refine blk_drewN ?_ _ | refine blk_drew ?_ | refine blk_alloc ?_ _)); exact BK197.out⟩, ⟨by (with_reducible repeat (first | refine blk_drewN ?_ _ | refine blk_drew ?_ | refine blk_alloc ?_ _)); refine blk_put (cs := #[.string t200, .bool x199001_2]) ?_ 1 _ rfl; (with_reducible repeat (first | refine blk_drewN ?_ _ | refine blk_drew ?_ | refine blk_alloc ?_ _)); refine blk_put (cs := #[.string x199000_2, .bool x199001_2]) ?_ 0 _ rfl; (with_reducible repeat (first | refine blk_drewN ?_ _ | refine blk_drew ?_ | refine blk_alloc ?_ _)); exact BK198.out⟩, ⟨by repeat (first | (with_reducible first | exact HB.out | apply below_alloc | apply pw_below_drewN | apply below_drew1 | refine below_set ?_ GE197.out | refine below_set ?_ GE198.out | refine below_set ?_ GE205.out) | exact HB.out)⟩⟩
                    · rw [if_neg c19] at H
                      exact absurd H (by simp)
                  · rw [if_neg c17] at H
                    exact absurd H (by simp)
                · rw [if_neg c16] at H
                  exact absurd H (by simp)
              · rw [if_neg c14] at H
                exact absurd H (by simp)
            · rw [if_neg c13] at H
              have c13b0 : decide (x10_2 < (l1.length : Int)) = false := decide_eq_false c13
              clear c13
              replace H := Option.bind_eq_some_iff.mp H
              obtain ⟨⟨t209, t210, t211⟩, A340, H⟩ := H
              replace H : ((law09_awake.f k2).bind fun t215 => (if t215 = true then (if (t192.toList == t209.toList && (t193 == t210)) = true then (if x8_2.length + t211.length < 4398046511104 then ((ref08_Frames.f k2 t194 (x8_2 ++ t211)).bind fun t219 => (some t219)) else (none)) else (some false)) else (some false))) = some r := H
              have A34 := Aside0.mk A340
              clear A340
              replace H := Option.bind_eq_some_iff.mp H
              obtain ⟨t215, A350, H⟩ := H
              replace H : (if t215 = true then (if (t192.toList == t209.toList && (t193 == t210)) = true then (if x8_2.length + t211.length < 4398046511104 then ((ref08_Frames.f k2 t194 (x8_2 ++ t211)).bind fun t219 => (some t219)) else (none)) else (some false)) else (some false)) = some r := H
              have A35 := Aside0.mk A350
              clear A350
              by_cases c36 : t215 = true
              · subst c36
                have H1 : (if (t192.toList == t209.toList && (t193 == t210)) = true then (if x8_2.length + t211.length < 4398046511104 then ((ref08_Frames.f k2 t194 (x8_2 ++ t211)).bind fun t219 => (some t219)) else (none)) else (some false)) = some r := by rw [if_pos rfl] at H; exact H
                clear H
                have H := H1
                clear H1
                by_cases c37 : (t192.toList == t209.toList && (t193 == t210)) = true
                · rw [if_pos c37] at H
                  have c37b0 : (t192.toList == t209.toList && (t193 == t210)) = true := c37
                  (try (have c37b1 : decide (t192.toList = t209.toList && (t193 == t210)) = true := by simpa using c37))
                  (try (have c37b2 : (t192.toList == t209.toList && (t193 == t210)) = true := by simpa using c37))
                  clear c37
                  by_cases c38 : x8_2.length + t211.length < 4398046511104
                  · rw [if_pos c38] at H
                    have LMc38 := Aside0.mk c38
                    clear c38
                    obtain ⟨y216, hy216⟩ : ∃ y_ : List (S34), y_ = (x8_2 ++ t211) := ⟨_, rfl⟩
                    replace H : ((ref08_Frames.f k2 t194 y216).bind fun t219 => (some t219)) = some r := by first | (rw [hy216]; with_reducible exact H) | (have H2_ := (Option.bind_some _ _).symm.trans H; rw [hy216]; with_reducible exact H2_) | (have H2_ := (Option.bind_some _ _).symm.trans H; with_reducible exact H2_) | with_reducible exact H | (rw [hy216]; exact H) | exact H
                    have Ny216 := Aside0.mk hy216
                    clear hy216
                    replace H := Option.bind_eq_some_iff.mp H
                    obtain ⟨t219, A390, H⟩ := H
                    replace H : (some t219) = some r := H
                    have A39 := Aside0.mk A390
                    clear A390
                    obtain rfl := Option.some.inj H
                    have hnb40 := NB198_197.out
                    have hnc40 := NB197_198.out
                    have hcz41_0 : wr.cell? ⟨gb198, 0, none⟩ = some (.string x199000_2) := (blk_cell BK198.out 0).trans rfl
                    have hcz41_1 : wr.cell? ⟨gb198, 1, none⟩ = some (.bool x199001_2) := (blk_cell BK198.out 1).trans rfl
                    have hfz41_0 := blk_frozen BK198.out 0
                    have hfz41_1 := blk_frozen BK198.out 1
                    go_wp2_with (first | ((with_reducible refine gate_callee (f := 9) rfl ?_); refine goesL_ (some 64) rfl rfl Try.func9 (by kernel_rfl) rfl #[.agg #[.string x199000_2, .bool x199001_2], .string x9_2] rfl (by (try simp only [List.map_toArray, List.map_cons, List.map_nil]); first | done | rfl | (simp only [List.length_drop, List.length_take]; rfl)) ?_; (with_reducible refine (stream_Push.calls k2 x199000_2 x199001_2 x9_2 t209 t210 t211 _ A34.out).mono ?_); rintro e w42 ⟨v212, rfl, ho0, hb⟩; refine ⟨_, rfl, ?_⟩; have n0_ := Aside0.mk (Kd.R_elder' (by (with_reducible repeat (first | apply Kd.R_alloc | apply Kd.R_drewN | apply Kd.R_drew)); exact HO_6.out) (Kd.R_base ho0) hb); have n1_ := Aside0.mk (Kd.R_elder' (by (with_reducible repeat (first | apply Kd.R_alloc | apply Kd.R_drewN | apply Kd.R_drew)); exact HO_8.out) (Kd.R_base ho0) hb); have n2_ := Aside0.mk (Kd.R_lower (Kd.R_new' (Kd.R_new' ho0 (Kd.R_lt (by (with_reducible repeat (first | apply Kd.R_alloc | apply Kd.R_drewN | apply Kd.R_drew)); exact HO_6.out))) (Kd.R_lt (by (with_reducible repeat (first | apply Kd.R_alloc | apply Kd.R_drewN | apply Kd.R_drew)); exact HO_8.out))) (below_size (by repeat (first | (with_reducible first | exact HB.out | apply below_alloc | apply pw_below_drewN | apply below_drew1 | refine below_set ?_ GE197.out | refine below_set ?_ GE198.out) | exact HB.out)))); have n3_ := Aside0.mk (blk_below (g := gb197) (o := .cells #[.string t192, .bool t193] 23 (0, 0)) (by (with_reducible repeat (first | refine blk_drewN ?_ _ | refine blk_drew ?_ | refine blk_alloc ?_ _)); exact BK197.out) hb); have n4_ := Aside0.mk (blk_below (g := gb198) (o := .cells #[.string x199000_2, .bool x199001_2] 23 (0, 0)) (by (with_reducible repeat (first | refine blk_drewN ?_ _ | refine blk_drew ?_ | refine blk_alloc ?_ _)); exact BK198.out) hb); have n5_ := Aside0.mk (below_step (by repeat (first | (with_reducible first | exact HB.out | apply below_alloc | apply pw_below_drewN | apply below_drew1 | refine below_set ?_ GE197.out | refine below_set ?_ GE198.out) | exact HB.out)) hb); clear HO_6; clear HO_8; clear BK197; clear BK198; clear HB; have HO_6 := n0_; have HO_8 := n1_; have HO213 := n2_; have BK197 := n3_; have BK198 := n4_; have HB := n5_; clear n0_ n1_ n2_ n3_ n4_ n5_; (try clear hb); (try clear hb2); (try clear hk); (try clear hi); (try clear ho0)) | ((with_reducible refine gate_dst (N := 14) rfl ?_); (try (refine gate_guard (by rfl) ?_; dsimp only)); refine box_event ?hg (N := 14) ?hd (cs := #[.string (⟨#[]⟩ : ByteArray), .bool false]) (t := 23) ?hr ?_; (case hd => rfl); (case hg => rfl); (case hr => first | (go_simp; done) | (go_simp; rfl)); intro gb214 hg w43 hbox hb; have n0_ := Aside0.mk (Kd.R_below (by (with_reducible repeat (first | apply Kd.R_alloc | apply Kd.R_drewN | apply Kd.R_drew)); exact HO_6.out) hb); have n1_ := Aside0.mk (Kd.R_below (by (with_reducible repeat (first | apply Kd.R_alloc | apply Kd.R_drewN | apply Kd.R_drew)); exact HO_8.out) hb); have n2_ := Aside0.mk (Kd.R_below (by (with_reducible repeat (first | apply Kd.R_alloc | apply Kd.R_drewN | apply Kd.R_drew)); exact HO213.out) hb); have n3_ := Aside0.mk (blk_below (g := gb197) (o := .cells #[.string t192, .bool t193] 23 (0, 0)) (by (with_reducible repeat (first | refine blk_drewN ?_ _ | refine blk_drew ?_ | refine blk_alloc ?_ _)); exact BK197.out) hb); have n4_ := Aside0.mk (blk_below (g := gb198) (o := .cells #[.string x199000_2, .bool x199001_2] 23 (0, 0)) (by (with_reducible repeat (first | refine blk_drewN ?_ _ | refine blk_drew ?_ | refine blk_alloc ?_ _)); exact BK198.out) hb); have n5_ := Aside0.mk (below_step (by repeat (first | (with_reducible first | exact HB.out | apply below_alloc | apply pw_below_drewN | apply below_drew1 | refine below_set ?_ GE197.out | refine below_set ?_ GE198.out) | exact HB.out)) hb); have n6_ := Aside0.mk (hbox); have n7_ := Aside0.mk ((by rw [hg]; exact (below_size (by repeat (first | (with_reducible first | exact HB.out | apply below_alloc | apply pw_below_drewN | apply below_drew1 | refine below_set ?_ GE197.out | refine below_set ?_ GE198.out) | exact HB.out))) : w.heap.size ≤ gb214)); have n8_ := Aside0.mk ((by rw [hg]; exact (below_size (by repeat (first | (with_reducible first | exact HB.out | apply below_alloc | apply pw_below_drewN | apply below_drew1 | refine below_set ?_ GE197.out | refine below_set ?_ GE198.out) | exact HB.out))) : w.heap.size ≤ gb214)); have n9_ := Aside0.mk ((by rw [hg]; exact Nat.ne_of_lt (blk_lt (g := gb197) (o := .cells #[.string t192, .bool t193] 23 (0, 0)) (by (with_reducible repeat (first | refine blk_drewN ?_ _ | refine blk_drew ?_ | refine blk_alloc ?_ _)); exact BK197.out)) : gb197 ≠ gb214)); have n10_ := Aside0.mk ((by rw [hg]; exact Nat.ne_of_gt (blk_lt (g := gb197) (o := .cells #[.string t192, .bool t193] 23 (0, 0)) (by (with_reducible repeat (first | refine blk_drewN ?_ _ | refine blk_drew ?_ | refine blk_alloc ?_ _)); exact BK197.out)) : gb214 ≠ gb197)); have n11_ := Aside0.mk ((by rw [hg]; exact Nat.ne_of_lt (blk_lt (g := gb198) (o := .cells #[.string x199000_2, .bool x199001_2] 23 (0, 0)) (by (with_reducible repeat (first | refine blk_drewN ?_ _ | refine blk_drew ?_ | refine blk_alloc ?_ _)); exact BK198.out)) : gb198 ≠ gb214)); have n12_ := Aside0.mk ((by rw [hg]; exact Nat.ne_of_gt (blk_lt (g := gb198) (o := .cells #[.string x199000_2, .bool x199001_2] 23 (0, 0)) (by (with_reducible repeat (first | refine blk_drewN ?_ _ | refine blk_drew ?_ | refine blk_alloc ?_ _)); exact BK198.out)) : gb214 ≠ gb198)); clear HO_6; clear HO_8; clear HO213; clear BK197; clear BK198; clear HB; have HO_6 := n0_; have HO_8 := n1_; have HO213 := n2_; have BK197 := n3_; have BK198 := n4_; have HB := n5_; have BK214 := n6_; have GW214 := n7_; have GE214 := n8_; have NB197_214 := n9_; have NB214_197 := n10_; have NB198_214 := n11_; have NB214_198 := n12_; clear n0_ n1_ n2_ n3_ n4_ n5_ n6_ n7_ n8_ n9_ n10_ n11_ n12_; clear hb hbox hg; have hnb44 := NB214_197.out; have hnc44 := NB197_214.out; have hnb45 := NB214_198.out; have hnc45 := NB198_214.out; have hcz46_0 : w43.cell? ⟨gb214, 0, none⟩ = some (.string (⟨#[]⟩ : ByteArray)) := (blk_cell BK214.out 0).trans rfl; have hcz46_1 : w43.cell? ⟨gb214, 1, none⟩ = some (.bool false) := (blk_cell BK214.out 1).trans rfl; have hfz46_0 := blk_frozen BK214.out 0; have hfz46_1 := blk_frozen BK214.out 1) | ((with_reducible refine gate_callee (f := 6) rfl ?_); refine goesL_ (some 67) rfl rfl Try.func6 (by kernel_rfl) rfl #[] rfl (by (try simp only [List.map_toArray, List.map_cons, List.map_nil]); first | done | rfl | (simp only [List.length_drop, List.length_take]; rfl)) ?_; (with_reducible refine (law09_awake.calls k2  true _ A35.out).mono ?_); rintro e w47 ⟨rfl, hb⟩; refine ⟨_, rfl, ?_⟩; have n0_ := Aside0.mk (Kd.R_below (by (with_reducible repeat (first | apply Kd.R_alloc | apply Kd.R_drewN | apply Kd.R_drew)); exact (Kd.R_mono (Kd.R_far (p := ⟨gb214, 1, none⟩) (Kd.R_far (p := ⟨gb214, 0, none⟩) (Kd.R_types HO_6.out BK214.out (by decide)) (fun _ hk => hk.2) (.string t209)) (fun _ hk => hk.2) (.bool t210)) (fun _ h_ => h_.1))) hb); have n1_ := Aside0.mk (Kd.R_below (by (with_reducible repeat (first | apply Kd.R_alloc | apply Kd.R_drewN | apply Kd.R_drew)); exact (Kd.R_mono (Kd.R_far (p := ⟨gb214, 1, none⟩) (Kd.R_far (p := ⟨gb214, 0, none⟩) (Kd.R_types HO_8.out BK214.out (by decide)) (fun _ hk => hk.2) (.string t209)) (fun _ hk => hk.2) (.bool t210)) (fun _ h_ => h_.1))) hb); have n2_ := Aside0.mk (Kd.R_below (by (with_reducible repeat (first | apply Kd.R_alloc | apply Kd.R_drewN | apply Kd.R_drew)); exact (Kd.R_mono (Kd.R_far (p := ⟨gb214, 1, none⟩) (Kd.R_far (p := ⟨gb214, 0, none⟩) (Kd.R_types HO213.out BK214.out (by decide)) (fun _ hk => hk.2) (.string t209)) (fun _ hk => hk.2) (.bool t210)) (fun _ h_ => h_.1))) hb); have n3_ := Aside0.mk (blk_below (g := gb197) (o := .cells #[.string t192, .bool t193] 23 (0, 0)) (by (with_reducible repeat (first | refine blk_drewN ?_ _ | refine blk_drew ?_ | refine blk_alloc ?_ _)); refine blk_far ?_ NB197_214.out _; (with_reducible repeat (first | refine blk_drewN ?_ _ | refine blk_drew ?_ | refine blk_alloc ?_ _)); refine blk_far ?_ NB197_214.out _; (with_reducible repeat (first | refine blk_drewN ?_ _ | refine blk_drew ?_ | refine blk_alloc ?_ _)); exact BK197.out) hb); have n4_ := Aside0.mk (blk_below (g := gb198) (o := .cells #[.string x199000_2, .bool x199001_2] 23 (0, 0)) (by (with_reducible repeat (first | refine blk_drewN ?_ _ | refine blk_drew ?_ | refine blk_alloc ?_ _)); refine blk_far ?_ NB198_214.out _; (with_reducible repeat (first | refine blk_drewN ?_ _ | refine blk_drew ?_ | refine blk_alloc ?_ _)); refine blk_far ?_ NB198_214.out _; (with_reducible repeat (first | refine blk_drewN ?_ _ | refine blk_drew ?_ | refine blk_alloc ?_ _)); exact BK198.out) hb); have n5_ := Aside0.mk (blk_below (g := gb214) (o := .cells #[.string t209, .bool t210] 23 (0, 0)) (by (with_reducible repeat (first | refine blk_drewN ?_ _ | refine blk_drew ?_ | refine blk_alloc ?_ _)); refine blk_put (cs := #[.string t209, .bool false]) ?_ 1 _ rfl; (with_reducible repeat (first | refine blk_drewN ?_ _ | refine blk_drew ?_ | refine blk_alloc ?_ _)); refine blk_put (cs := #[.string (⟨#[]⟩ : ByteArray), .bool false]) ?_ 0 _ rfl; (with_reducible repeat (first | refine blk_drewN ?_ _ | refine blk_drew ?_ | refine blk_alloc ?_ _)); exact BK214.out) hb); have n6_ := Aside0.mk (below_step (by repeat (first | (with_reducible first | exact HB.out | apply below_alloc | apply pw_below_drewN | apply below_drew1 | refine below_set ?_ GE197.out | refine below_set ?_ GE198.out | refine below_set ?_ GE214.out) | exact HB.out)) hb); clear HO_6; clear HO_8; clear HO213; clear BK197; clear BK198; clear BK214; clear HB; have HO_6 := n0_; have HO_8 := n1_; have HO213 := n2_; have BK197 := n3_; have BK198 := n4_; have BK214 := n5_; have HB := n6_; clear n0_ n1_ n2_ n3_ n4_ n5_ n6_; (try clear hb); (try clear hb2); (try clear hk); (try clear hi); have hcz48_0 : w47.cell? ⟨gb197, 0, none⟩ = some (.string t192) := (blk_cell BK197.out 0).trans rfl; have hcz48_1 : w47.cell? ⟨gb197, 1, none⟩ = some (.bool t193) := (blk_cell BK197.out 1).trans rfl; have hfz48_0 := blk_frozen BK197.out 0; have hfz48_1 := blk_frozen BK197.out 1; have hcz49_0 : w47.cell? ⟨gb214, 0, none⟩ = some (.string t209) := (blk_cell BK214.out 0).trans rfl; have hcz49_1 : w47.cell? ⟨gb214, 1, none⟩ = some (.bool t210) := (blk_cell BK214.out 1).trans rfl; have hfz49_0 := blk_frozen BK214.out 0; have hfz49_1 := blk_frozen BK214.out 1; obtain ⟨Ao51, co51, eo51⟩ := Kd.R_slice HO213.out; subst eo51) | ((with_reducible refine gate_builtin (b := .append) (xs := #[.tmp 75, .tmp 76]) rfl ?_); (try (refine gate_guard (by rfl) ?_; dsimp only)); at_builtin; refine Kd.R_append_rows k34 (w0 := w) w.heap.size rfl (.tmp 75) (.tmp 76) 26 34 (.agg #[(.int .i64 0), (.int .i64 0), (.string ⟨#[]⟩)]) 32 rfl Try.underlying26 info34 rfl (by decide) (by omega) u8 x8_2 t211 _ _ _ (fun k_ => some k_ ≠ (v195 : Value).ownBlock ∧ some k_ ≠ (.slice Ao51 t211.length co51 : Value).ownBlock) (fun _ => False) rfl rfl ?aO ?aR (fun _ _ h => h) (fun _ h => h.elim) ?aF ?aB ?aS ?aL ?_; (case aR => repeat (first | exact (Kd.R_reads' HO213.out).2.2 | (with_reducible refine Kd.C_alloc ?_ _) | (with_reducible refine Kd.C_drewN ?_ _) | (with_reducible refine Kd.C_drew ?_))); (case aB => exact (by repeat (first | (with_reducible first | exact HB.out | apply below_alloc | apply pw_below_drewN | apply below_drew1 | refine below_set ?_ GE197.out | refine below_set ?_ GE198.out | refine below_set ?_ GE214.out) | exact HB.out))); (case aF => exact (fun k_ hk => ⟨Kd.fresh' (Kd.R_lt (by (with_reducible repeat (first | apply Kd.R_alloc | apply Kd.R_drewN | apply Kd.R_drew)); exact HO_6.out)) k_ hk, Kd.fresh' (Kd.R_lt (by (with_reducible repeat (first | apply Kd.R_alloc | apply Kd.R_drewN | apply Kd.R_drew)); exact HO213.out)) k_ hk⟩)); (case aO => exact (by (with_reducible repeat (first | apply Kd.R_alloc | apply Kd.R_drewN | apply Kd.R_drew)); exact HO_8.out)); (case aS => exact (below_size (by repeat (first | (with_reducible first | exact HB.out | apply below_alloc | apply pw_below_drewN | apply below_drew1 | refine below_set ?_ GE197.out | refine below_set ?_ GE198.out | refine below_set ?_ GE214.out) | exact HB.out)))); (case aL => have := LMc38.out; omega); intro v217 w50 ho hb hg hat; rw [← Ny216.out] at ho; have n0_ := Aside0.mk (Kd.R_after (ok := (fun k_ => some k_ ≠ (.slice Ao51 t211.length co51 : Value).ownBlock)) (by (with_reducible repeat (first | apply Kd.R_alloc | apply Kd.R_drewN | apply Kd.R_drew)); exact Kd.R_mono HO_6.out (fun _ hk => ⟨hk.2, hk.1⟩)) hg hat); have n1_ := Aside0.mk (blk_grown (g := gb197) (o := .cells #[.string t192, .bool t193] 23 (0, 0)) (by (with_reducible repeat (first | refine blk_drewN ?_ _ | refine blk_drew ?_ | refine blk_alloc ?_ _)); exact BK197.out) hg (Kd.R_ne HO_8.out BK197.out (by decide))); have n2_ := Aside0.mk (blk_grown (g := gb198) (o := .cells #[.string x199000_2, .bool x199001_2] 23 (0, 0)) (by (with_reducible repeat (first | refine blk_drewN ?_ _ | refine blk_drew ?_ | refine blk_alloc ?_ _)); exact BK198.out) hg (Kd.R_ne HO_8.out BK198.out (by decide))); have n3_ := Aside0.mk (Kd.R_after (ok := (fun k_ => some k_ ≠ (v195 : Value).ownBlock)) (by (with_reducible repeat (first | apply Kd.R_alloc | apply Kd.R_drewN | apply Kd.R_drew)); exact Kd.R_mono HO213.out (fun _ hk => ⟨hk.1.2, hk.2⟩)) hg hat); have n4_ := Aside0.mk (blk_grown (g := gb214) (o := .cells #[.string t209, .bool t210] 23 (0, 0)) (by (with_reducible repeat (first | refine blk_drewN ?_ _ | refine blk_drew ?_ | refine blk_alloc ?_ _)); exact BK214.out) hg (Kd.R_ne HO_8.out BK214.out (by decide))); have n5_ := Aside0.mk (hb); have n6_ := Aside0.mk (ho); clear HO_6; clear BK197; clear BK198; clear HO213; clear BK214; clear HB; clear HO_8; have HO_6 := n0_; have BK197 := n1_; have BK198 := n2_; have HO213 := n3_; have BK214 := n4_; have HB := n5_; have HO218 := n6_; clear n0_ n1_ n2_ n3_ n4_ n5_ n6_; clear ho hb hg hat; obtain ⟨Ao52, co52, eo52⟩ := Kd.R_slice HO_6.out; subst eo52; obtain ⟨Ao53, co53, eo53⟩ := Kd.R_slice HO218.out; subst eo53) | (go_at_call 11; (with_reducible refine (ref08_Frames.calls k2 _ _ t194 _ _ y216 t219 _ ?side1 ?side2 ?side3 ?side4 A39.out).mono ?_); (case side1 => repeat (first | exact (Kd.R_reads' HO_6.out).2.2 | (with_reducible refine Kd.C_alloc ?_ _) | (with_reducible refine Kd.C_drewN ?_ _) | (with_reducible refine Kd.C_drew ?_))); (case side2 => exact (Kd.R_reads' HO_6.out).2.1); (case side3 => repeat (first | exact (Kd.R_reads' HO218.out).2.2 | (with_reducible refine Kd.C_alloc ?_ _) | (with_reducible refine Kd.C_drewN ?_ _) | (with_reducible refine Kd.C_drew ?_))); (case side4 => exact (Kd.R_reads' HO218.out).2.1); rintro e w' ⟨rfl, ⟨nd, rfl⟩⟩))
                    go_ret
                    exact ⟨by first | rfl | (simp [errW_none, errW_some] <;> rfl) | (simp [*, errW_none, errW_some] <;> rfl), by repeat (first | (with_reducible first | exact HB.out | apply below_alloc | apply pw_below_drewN | apply below_drew1 | refine below_set ?_ GE197.out | refine below_set ?_ GE198.out | refine below_set ?_ GE214.out) | exact HB.out)⟩
                  · rw [if_neg c38] at H
                    exact absurd H (by simp)
                · rw [if_neg c37] at H
                  have c37b0 : (t192.toList == t209.toList && (t193 == t210)) = false := by simpa using c37
                  (try (have c37b1 : decide (t192.toList = t209.toList && (t193 == t210)) = false := by simpa using c37))
                  (try (have c37b2 : (t192.toList == t209.toList && (t193 == t210)) = false := by simpa using c37))
                  (try (have c37b3 : ¬ (t192.toList = t209.toList && (t193 == t210)) := by simpa using c37))
                  clear c37
                  obtain rfl := Option.some.inj H
                  have hnb54 := NB198_197.out
                  have hnc54 := NB197_198.out
                  have hcz55_0 : wr.cell? ⟨gb198, 0, none⟩ = some (.string x199000_2) := (blk_cell BK198.out 0).trans rfl
                  have hcz55_1 : wr.cell? ⟨gb198, 1, none⟩ = some (.bool x199001_2) := (blk_cell BK198.out 1).trans rfl
                  have hfz55_0 := blk_frozen BK198.out 0
                  have hfz55_1 := blk_frozen BK198.out 1
                  go_wp2_with (first | ((with_reducible refine gate_callee (f := 9) rfl ?_); refine goesL_ (some 64) rfl rfl Try.func9 (by kernel_rfl) rfl #[.agg #[.string x199000_2, .bool x199001_2], .string x9_2] rfl (by (try simp only [List.map_toArray, List.map_cons, List.map_nil]); first | done | rfl | (simp only [List.length_drop, List.length_take]; rfl)) ?_; (with_reducible refine (stream_Push.calls k2 x199000_2 x199001_2 x9_2 t209 t210 t211 _ A34.out).mono ?_); rintro e w56 ⟨v212, rfl, ho0, hb⟩; refine ⟨_, rfl, ?_⟩; have n0_ := Aside0.mk (Kd.R_elder' (by (with_reducible repeat (first | apply Kd.R_alloc | apply Kd.R_drewN | apply Kd.R_drew)); exact HO_6.out) (Kd.R_base ho0) hb); have n1_ := Aside0.mk (Kd.R_elder' (by (with_reducible repeat (first | apply Kd.R_alloc | apply Kd.R_drewN | apply Kd.R_drew)); exact HO_8.out) (Kd.R_base ho0) hb); have n2_ := Aside0.mk (Kd.R_lower (Kd.R_new' (Kd.R_new' ho0 (Kd.R_lt (by (with_reducible repeat (first | apply Kd.R_alloc | apply Kd.R_drewN | apply Kd.R_drew)); exact HO_6.out))) (Kd.R_lt (by (with_reducible repeat (first | apply Kd.R_alloc | apply Kd.R_drewN | apply Kd.R_drew)); exact HO_8.out))) (below_size (by repeat (first | (with_reducible first | exact HB.out | apply below_alloc | apply pw_below_drewN | apply below_drew1 | refine below_set ?_ GE197.out | refine below_set ?_ GE198.out) | exact HB.out)))); have n3_ := Aside0.mk (blk_below (g := gb197) (o := .cells #[.string t192, .bool t193] 23 (0, 0)) (by (with_reducible repeat (first | refine blk_drewN ?_ _ | refine blk_drew ?_ | refine blk_alloc ?_ _)); exact BK197.out) hb); have n4_ := Aside0.mk (blk_below (g := gb198) (o := .cells #[.string x199000_2, .bool x199001_2] 23 (0, 0)) (by (with_reducible repeat (first | refine blk_drewN ?_ _ | refine blk_drew ?_ | refine blk_alloc ?_ _)); exact BK198.out) hb); have n5_ := Aside0.mk (below_step (by repeat (first | (with_reducible first | exact HB.out | apply below_alloc | apply pw_below_drewN | apply below_drew1 | refine below_set ?_ GE197.out | refine below_set ?_ GE198.out) | exact HB.out)) hb); clear HO_6; clear HO_8; clear BK197; clear BK198; clear HB; have HO_6 := n0_; have HO_8 := n1_; have HO213 := n2_; have BK197 := n3_; have BK198 := n4_; have HB := n5_; clear n0_ n1_ n2_ n3_ n4_ n5_; (try clear hb); (try clear hb2); (try clear hk); (try clear hi); (try clear ho0)) | ((with_reducible refine gate_dst (N := 14) rfl ?_); (try (refine gate_guard (by rfl) ?_; dsimp only)); refine box_event ?hg (N := 14) ?hd (cs := #[.string (⟨#[]⟩ : ByteArray), .bool false]) (t := 23) ?hr ?_; (case hd => rfl); (case hg => rfl); (case hr => first | (go_simp; done) | (go_simp; rfl)); intro gb214 hg w57 hbox hb; have n0_ := Aside0.mk (Kd.R_below (by (with_reducible repeat (first | apply Kd.R_alloc | apply Kd.R_drewN | apply Kd.R_drew)); exact HO_6.out) hb); have n1_ := Aside0.mk (Kd.R_below (by (with_reducible repeat (first | apply Kd.R_alloc | apply Kd.R_drewN | apply Kd.R_drew)); exact HO_8.out) hb); have n2_ := Aside0.mk (Kd.R_below (by (with_reducible repeat (first | apply Kd.R_alloc | apply Kd.R_drewN | apply Kd.R_drew)); exact HO213.out) hb); have n3_ := Aside0.mk (blk_below (g := gb197) (o := .cells #[.string t192, .bool t193] 23 (0, 0)) (by (with_reducible repeat (first | refine blk_drewN ?_ _ | refine blk_drew ?_ | refine blk_alloc ?_ _)); exact BK197.out) hb); have n4_ := Aside0.mk (blk_below (g := gb198) (o := .cells #[.string x199000_2, .bool x199001_2] 23 (0, 0)) (by (with_reducible repeat (first | refine blk_drewN ?_ _ | refine blk_drew ?_ | refine blk_alloc ?_ _)); exact BK198.out) hb); have n5_ := Aside0.mk (below_step (by repeat (first | (with_reducible first | exact HB.out | apply below_alloc | apply pw_below_drewN | apply below_drew1 | refine below_set ?_ GE197.out | refine below_set ?_ GE198.out) | exact HB.out)) hb); have n6_ := Aside0.mk (hbox); have n7_ := Aside0.mk ((by rw [hg]; exact (below_size (by repeat (first | (with_reducible first | exact HB.out | apply below_alloc | apply pw_below_drewN | apply below_drew1 | refine below_set ?_ GE197.out | refine below_set ?_ GE198.out) | exact HB.out))) : w.heap.size ≤ gb214)); have n8_ := Aside0.mk ((by rw [hg]; exact (below_size (by repeat (first | (with_reducible first | exact HB.out | apply below_alloc | apply pw_below_drewN | apply below_drew1 | refine below_set ?_ GE197.out | refine below_set ?_ GE198.out) | exact HB.out))) : w.heap.size ≤ gb214)); have n9_ := Aside0.mk ((by rw [hg]; exact Nat.ne_of_lt (blk_lt (g := gb197) (o := .cells #[.string t192, .bool t193] 23 (0, 0)) (by (with_reducible repeat (first | refine blk_drewN ?_ _ | refine blk_drew ?_ | refine blk_alloc ?_ _)); exact BK197.out)) : gb197 ≠ gb214)); have n10_ := Aside0.mk ((by rw [hg]; exact Nat.ne_of_gt (blk_lt (g := gb197) (o := .cells #[.string t192, .bool t193] 23 (0, 0)) (by (with_reducible repeat (first | refine blk_drewN ?_ _ | refine blk_drew ?_ | refine blk_alloc ?_ _)); exact BK197.out)) : gb214 ≠ gb197)); have n11_ := Aside0.mk ((by rw [hg]; exact Nat.ne_of_lt (blk_lt (g := gb198) (o := .cells #[.string x199000_2, .bool x199001_2] 23 (0, 0)) (by (with_reducible repeat (first | refine blk_drewN ?_ _ | refine blk_drew ?_ | refine blk_alloc ?_ _)); exact BK198.out)) : gb198 ≠ gb214)); have n12_ := Aside0.mk ((by rw [hg]; exact Nat.ne_of_gt (blk_lt (g := gb198) (o := .cells #[.string x199000_2, .bool x199001_2] 23 (0, 0)) (by (with_reducible repeat (first | refine blk_drewN ?_ _ | refine blk_drew ?_ | refine blk_alloc ?_ _)); exact BK198.out)) : gb214 ≠ gb198)); clear HO_6; clear HO_8; clear HO213; clear BK197; clear BK198; clear HB; have HO_6 := n0_; have HO_8 := n1_; have HO213 := n2_; have BK197 := n3_; have BK198 := n4_; have HB := n5_; have BK214 := n6_; have GW214 := n7_; have GE214 := n8_; have NB197_214 := n9_; have NB214_197 := n10_; have NB198_214 := n11_; have NB214_198 := n12_; clear n0_ n1_ n2_ n3_ n4_ n5_ n6_ n7_ n8_ n9_ n10_ n11_ n12_; clear hb hbox hg; have hnb58 := NB214_197.out; have hnc58 := NB197_214.out; have hnb59 := NB214_198.out; have hnc59 := NB198_214.out; have hcz60_0 : w57.cell? ⟨gb214, 0, none⟩ = some (.string (⟨#[]⟩ : ByteArray)) := (blk_cell BK214.out 0).trans rfl; have hcz60_1 : w57.cell? ⟨gb214, 1, none⟩ = some (.bool false) := (blk_cell BK214.out 1).trans rfl; have hfz60_0 := blk_frozen BK214.out 0; have hfz60_1 := blk_frozen BK214.out 1) | ((with_reducible refine gate_callee (f := 6) rfl ?_); refine goesL_ (some 67) rfl rfl Try.func6 (by kernel_rfl) rfl #[] rfl (by (try simp only [List.map_toArray, List.map_cons, List.map_nil]); first | done | rfl | (simp only [List.length_drop, List.length_take]; rfl)) ?_; (with_reducible refine (law09_awake.calls k2  true _ A35.out).mono ?_); rintro e w61 ⟨rfl, hb⟩; refine ⟨_, rfl, ?_⟩; have n0_ := Aside0.mk (Kd.R_below (by (with_reducible repeat (first | apply Kd.R_alloc | apply Kd.R_drewN | apply Kd.R_drew)); exact (Kd.R_mono (Kd.R_far (p := ⟨gb214, 1, none⟩) (Kd.R_far (p := ⟨gb214, 0, none⟩) (Kd.R_types HO_6.out BK214.out (by decide)) (fun _ hk => hk.2) (.string t209)) (fun _ hk => hk.2) (.bool t210)) (fun _ h_ => h_.1))) hb); have n1_ := Aside0.mk (Kd.R_below (by (with_reducible repeat (first | apply Kd.R_alloc | apply Kd.R_drewN | apply Kd.R_drew)); exact (Kd.R_mono (Kd.R_far (p := ⟨gb214, 1, none⟩) (Kd.R_far (p := ⟨gb214, 0, none⟩) (Kd.R_types HO_8.out BK214.out (by decide)) (fun _ hk => hk.2) (.string t209)) (fun _ hk => hk.2) (.bool t210)) (fun _ h_ => h_.1))) hb); have n2_ := Aside0.mk (Kd.R_below (by (with_reducible repeat (first | apply Kd.R_alloc | apply Kd.R_drewN | apply Kd.R_drew)); exact (Kd.R_mono (Kd.R_far (p := ⟨gb214, 1, none⟩) (Kd.R_far (p := ⟨gb214, 0, none⟩) (Kd.R_types HO213.out BK214.out (by decide)) (fun _ hk => hk.2) (.string t209)) (fun _ hk => hk.2) (.bool t210)) (fun _ h_ => h_.1))) hb); have n3_ := Aside0.mk (blk_below (g := gb197) (o := .cells #[.string t192, .bool t193] 23 (0, 0)) (by (with_reducible repeat (first | refine blk_drewN ?_ _ | refine blk_drew ?_ | refine blk_alloc ?_ _)); refine blk_far ?_ NB197_214.out _; (with_reducible repeat (first | refine blk_drewN ?_ _ | refine blk_drew ?_ | refine blk_alloc ?_ _)); refine blk_far ?_ NB197_214.out _; (with_reducible repeat (first | refine blk_drewN ?_ _ | refine blk_drew ?_ | refine blk_alloc ?_ _)); exact BK197.out) hb); have n4_ := Aside0.mk (blk_below (g := gb198) (o := .cells #[.string x199000_2, .bool x199001_2] 23 (0, 0)) (by (with_reducible repeat (first | refine blk_drewN ?_ _ | refine blk_drew ?_ | refine blk_alloc ?_ _)); refine blk_far ?_ NB198_214.out _; (with_reducible repeat (first | refine blk_drewN ?_ _ | refine blk_drew ?_ | refine blk_alloc ?_ _)); refine blk_far ?_ NB198_214.out _; (with_reducible repeat (first | refine blk_drewN ?_ _ | refine blk_drew ?_ | refine blk_alloc ?_ _)); exact BK198.out) hb); have n5_ := Aside0.mk (blk_below (g := gb214) (o := .cells #[.string t209, .bool t210] 23 (0, 0)) (by (with_reducible repeat (first | refine blk_drewN ?_ _ | refine blk_drew ?_ | refine blk_alloc ?_ _)); refine blk_put (cs := #[.string t209, .bool false]) ?_ 1 _ rfl; (with_reducible repeat (first | refine blk_drewN ?_ _ | refine blk_drew ?_ | refine blk_alloc ?_ _)); refine blk_put (cs := #[.string (⟨#[]⟩ : ByteArray), .bool false]) ?_ 0 _ rfl; (with_reducible repeat (first | refine blk_drewN ?_ _ | refine blk_drew ?_ | refine blk_alloc ?_ _)); exact BK214.out) hb); have n6_ := Aside0.mk (below_step (by repeat (first | (with_reducible first | exact HB.out | apply below_alloc | apply pw_below_drewN | apply below_drew1 | refine below_set ?_ GE197.out | refine below_set ?_ GE198.out | refine below_set ?_ GE214.out) | exact HB.out)) hb); clear HO_6; clear HO_8; clear HO213; clear BK197; clear BK198; clear BK214; clear HB; have HO_6 := n0_; have HO_8 := n1_; have HO213 := n2_; have BK197 := n3_; have BK198 := n4_; have BK214 := n5_; have HB := n6_; clear n0_ n1_ n2_ n3_ n4_ n5_ n6_; (try clear hb); (try clear hb2); (try clear hk); (try clear hi); have hcz62_0 : w61.cell? ⟨gb197, 0, none⟩ = some (.string t192) := (blk_cell BK197.out 0).trans rfl; have hcz62_1 : w61.cell? ⟨gb197, 1, none⟩ = some (.bool t193) := (blk_cell BK197.out 1).trans rfl; have hfz62_0 := blk_frozen BK197.out 0; have hfz62_1 := blk_frozen BK197.out 1; have hcz63_0 : w61.cell? ⟨gb214, 0, none⟩ = some (.string t209) := (blk_cell BK214.out 0).trans rfl; have hcz63_1 : w61.cell? ⟨gb214, 1, none⟩ = some (.bool t210) := (blk_cell BK214.out 1).trans rfl; have hfz63_0 := blk_frozen BK214.out 0; have hfz63_1 := blk_frozen BK214.out 1))
                  go_ret
                  exact ⟨by first | rfl | (simp [errW_none, errW_some] <;> rfl) | (simp [*, errW_none, errW_some] <;> rfl), by repeat (first | (with_reducible first | exact HB.out | apply below_alloc | apply pw_below_drewN | apply below_drew1 | refine below_set ?_ GE197.out | refine below_set ?_ GE198.out | refine below_set ?_ GE214.out) | exact HB.out)⟩
              · replace c36 := Bool.eq_false_iff.mpr c36
                subst c36
                have H1 : (some false) = some r := by rw [if_neg (show ¬ (false = true) by decide)] at H; exact H
                clear H
                have H := H1
                clear H1
                obtain rfl := Option.some.inj H
                have hnb64 := NB198_197.out
                have hnc64 := NB197_198.out
                have hcz65_0 : wr.cell? ⟨gb198, 0, none⟩ = some (.string x199000_2) := (blk_cell BK198.out 0).trans rfl
                have hcz65_1 : wr.cell? ⟨gb198, 1, none⟩ = some (.bool x199001_2) := (blk_cell BK198.out 1).trans rfl
                have hfz65_0 := blk_frozen BK198.out 0
                have hfz65_1 := blk_frozen BK198.out 1
                go_wp2_with (first | ((with_reducible refine gate_callee (f := 9) rfl ?_); refine goesL_ (some 64) rfl rfl Try.func9 (by kernel_rfl) rfl #[.agg #[.string x199000_2, .bool x199001_2], .string x9_2] rfl (by (try simp only [List.map_toArray, List.map_cons, List.map_nil]); first | done | rfl | (simp only [List.length_drop, List.length_take]; rfl)) ?_; (with_reducible refine (stream_Push.calls k2 x199000_2 x199001_2 x9_2 t209 t210 t211 _ A34.out).mono ?_); rintro e w66 ⟨v212, rfl, ho0, hb⟩; refine ⟨_, rfl, ?_⟩; have n0_ := Aside0.mk (Kd.R_elder' (by (with_reducible repeat (first | apply Kd.R_alloc | apply Kd.R_drewN | apply Kd.R_drew)); exact HO_6.out) (Kd.R_base ho0) hb); have n1_ := Aside0.mk (Kd.R_elder' (by (with_reducible repeat (first | apply Kd.R_alloc | apply Kd.R_drewN | apply Kd.R_drew)); exact HO_8.out) (Kd.R_base ho0) hb); have n2_ := Aside0.mk (Kd.R_lower (Kd.R_new' (Kd.R_new' ho0 (Kd.R_lt (by (with_reducible repeat (first | apply Kd.R_alloc | apply Kd.R_drewN | apply Kd.R_drew)); exact HO_6.out))) (Kd.R_lt (by (with_reducible repeat (first | apply Kd.R_alloc | apply Kd.R_drewN | apply Kd.R_drew)); exact HO_8.out))) (below_size (by repeat (first | (with_reducible first | exact HB.out | apply below_alloc | apply pw_below_drewN | apply below_drew1 | refine below_set ?_ GE197.out | refine below_set ?_ GE198.out) | exact HB.out)))); have n3_ := Aside0.mk (blk_below (g := gb197) (o := .cells #[.string t192, .bool t193] 23 (0, 0)) (by (with_reducible repeat (first | refine blk_drewN ?_ _ | refine blk_drew ?_ | refine blk_alloc ?_ _)); exact BK197.out) hb); have n4_ := Aside0.mk (blk_below (g := gb198) (o := .cells #[.string x199000_2, .bool x199001_2] 23 (0, 0)) (by (with_reducible repeat (first | refine blk_drewN ?_ _ | refine blk_drew ?_ | refine blk_alloc ?_ _)); exact BK198.out) hb); have n5_ := Aside0.mk (below_step (by repeat (first | (with_reducible first | exact HB.out | apply below_alloc | apply pw_below_drewN | apply below_drew1 | refine below_set ?_ GE197.out | refine below_set ?_ GE198.out) | exact HB.out)) hb); clear HO_6; clear HO_8; clear BK197; clear BK198; clear HB; have HO_6 := n0_; have HO_8 := n1_; have HO213 := n2_; have BK197 := n3_; have BK198 := n4_; have HB := n5_; clear n0_ n1_ n2_ n3_ n4_ n5_; (try clear hb); (try clear hb2); (try clear hk); (try clear hi); (try clear ho0)) | ((with_reducible refine gate_dst (N := 14) rfl ?_); (try (refine gate_guard (by rfl) ?_; dsimp only)); refine box_event ?hg (N := 14) ?hd (cs := #[.string (⟨#[]⟩ : ByteArray), .bool false]) (t := 23) ?hr ?_; (case hd => rfl); (case hg => rfl); (case hr => first | (go_simp; done) | (go_simp; rfl)); intro gb214 hg w67 hbox hb; have n0_ := Aside0.mk (Kd.R_below (by (with_reducible repeat (first | apply Kd.R_alloc | apply Kd.R_drewN | apply Kd.R_drew)); exact HO_6.out) hb); have n1_ := Aside0.mk (Kd.R_below (by (with_reducible repeat (first | apply Kd.R_alloc | apply Kd.R_drewN | apply Kd.R_drew)); exact HO_8.out) hb); have n2_ := Aside0.mk (Kd.R_below (by (with_reducible repeat (first | apply Kd.R_alloc | apply Kd.R_drewN | apply Kd.R_drew)); exact HO213.out) hb); have n3_ := Aside0.mk (blk_below (g := gb197) (o := .cells #[.string t192, .bool t193] 23 (0, 0)) (by (with_reducible repeat (first | refine blk_drewN ?_ _ | refine blk_drew ?_ | refine blk_alloc ?_ _)); exact BK197.out) hb); have n4_ := Aside0.mk (blk_below (g := gb198) (o := .cells #[.string x199000_2, .bool x199001_2] 23 (0, 0)) (by (with_reducible repeat (first | refine blk_drewN ?_ _ | refine blk_drew ?_ | refine blk_alloc ?_ _)); exact BK198.out) hb); have n5_ := Aside0.mk (below_step (by repeat (first | (with_reducible first | exact HB.out | apply below_alloc | apply pw_below_drewN | apply below_drew1 | refine below_set ?_ GE197.out | refine below_set ?_ GE198.out) | exact HB.out)) hb); have n6_ := Aside0.mk (hbox); have n7_ := Aside0.mk ((by rw [hg]; exact (below_size (by repeat (first | (with_reducible first | exact HB.out | apply below_alloc | apply pw_below_drewN | apply below_drew1 | refine below_set ?_ GE197.out | refine below_set ?_ GE198.out) | exact HB.out))) : w.heap.size ≤ gb214)); have n8_ := Aside0.mk ((by rw [hg]; exact (below_size (by repeat (first | (with_reducible first | exact HB.out | apply below_alloc | apply pw_below_drewN | apply below_drew1 | refine below_set ?_ GE197.out | refine below_set ?_ GE198.out) | exact HB.out))) : w.heap.size ≤ gb214)); have n9_ := Aside0.mk ((by rw [hg]; exact Nat.ne_of_lt (blk_lt (g := gb197) (o := .cells #[.string t192, .bool t193] 23 (0, 0)) (by (with_reducible repeat (first | refine blk_drewN ?_ _ | refine blk_drew ?_ | refine blk_alloc ?_ _)); exact BK197.out)) : gb197 ≠ gb214)); have n10_ := Aside0.mk ((by rw [hg]; exact Nat.ne_of_gt (blk_lt (g := gb197) (o := .cells #[.string t192, .bool t193] 23 (0, 0)) (by (with_reducible repeat (first | refine blk_drewN ?_ _ | refine blk_drew ?_ | refine blk_alloc ?_ _)); exact BK197.out)) : gb214 ≠ gb197)); have n11_ := Aside0.mk ((by rw [hg]; exact Nat.ne_of_lt (blk_lt (g := gb198) (o := .cells #[.string x199000_2, .bool x199001_2] 23 (0, 0)) (by (with_reducible repeat (first | refine blk_drewN ?_ _ | refine blk_drew ?_ | refine blk_alloc ?_ _)); exact BK198.out)) : gb198 ≠ gb214)); have n12_ := Aside0.mk ((by rw [hg]; exact Nat.ne_of_gt (blk_lt (g := gb198) (o := .cells #[.string x199000_2, .bool x199001_2] 23 (0, 0)) (by (with_reducible repeat (first | refine blk_drewN ?_ _ | refine blk_drew ?_ | refine blk_alloc ?_ _)); exact BK198.out)) : gb214 ≠ gb198)); clear HO_6; clear HO_8; clear HO213; clear BK197; clear BK198; clear HB; have HO_6 := n0_; have HO_8 := n1_; have HO213 := n2_; have BK197 := n3_; have BK198 := n4_; have HB := n5_; have BK214 := n6_; have GW214 := n7_; have GE214 := n8_; have NB197_214 := n9_; have NB214_197 := n10_; have NB198_214 := n11_; have NB214_198 := n12_; clear n0_ n1_ n2_ n3_ n4_ n5_ n6_ n7_ n8_ n9_ n10_ n11_ n12_; clear hb hbox hg; have hnb68 := NB214_197.out; have hnc68 := NB197_214.out; have hnb69 := NB214_198.out; have hnc69 := NB198_214.out; have hcz70_0 : w67.cell? ⟨gb214, 0, none⟩ = some (.string (⟨#[]⟩ : ByteArray)) := (blk_cell BK214.out 0).trans rfl; have hcz70_1 : w67.cell? ⟨gb214, 1, none⟩ = some (.bool false) := (blk_cell BK214.out 1).trans rfl; have hfz70_0 := blk_frozen BK214.out 0; have hfz70_1 := blk_frozen BK214.out 1) | ((with_reducible refine gate_callee (f := 6) rfl ?_); refine goesL_ (some 67) rfl rfl Try.func6 (by kernel_rfl) rfl #[] rfl (by (try simp only [List.map_toArray, List.map_cons, List.map_nil]); first | done | rfl | (simp only [List.length_drop, List.length_take]; rfl)) ?_; (with_reducible refine (law09_awake.calls k2  false _ A35.out).mono ?_); rintro e w71 ⟨rfl, hb⟩; refine ⟨_, rfl, ?_⟩; have n0_ := Aside0.mk (Kd.R_below (by (with_reducible repeat (first | apply Kd.R_alloc | apply Kd.R_drewN | apply Kd.R_drew)); exact (Kd.R_mono (Kd.R_far (p := ⟨gb214, 1, none⟩) (Kd.R_far (p := ⟨gb214, 0, none⟩) (Kd.R_types HO_6.out BK214.out (by decide)) (fun _ hk => hk.2) (.string t209)) (fun _ hk => hk.2) (.bool t210)) (fun _ h_ => h_.1))) hb); have n1_ := Aside0.mk (Kd.R_below (by (with_reducible repeat (first | apply Kd.R_alloc | apply Kd.R_drewN | apply Kd.R_drew)); exact (Kd.R_mono (Kd.R_far (p := ⟨gb214, 1, none⟩) (Kd.R_far (p := ⟨gb214, 0, none⟩) (Kd.R_types HO_8.out BK214.out (by decide)) (fun _ hk => hk.2) (.string t209)) (fun _ hk => hk.2) (.bool t210)) (fun _ h_ => h_.1))) hb); have n2_ := Aside0.mk (Kd.R_below (by (with_reducible repeat (first | apply Kd.R_alloc | apply Kd.R_drewN | apply Kd.R_drew)); exact (Kd.R_mono (Kd.R_far (p := ⟨gb214, 1, none⟩) (Kd.R_far (p := ⟨gb214, 0, none⟩) (Kd.R_types HO213.out BK214.out (by decide)) (fun _ hk => hk.2) (.string t209)) (fun _ hk => hk.2) (.bool t210)) (fun _ h_ => h_.1))) hb); have n3_ := Aside0.mk (blk_below (g := gb197) (o := .cells #[.string t192, .bool t193] 23 (0, 0)) (by (with_reducible repeat (first | refine blk_drewN ?_ _ | refine blk_drew ?_ | refine blk_alloc ?_ _)); refine blk_far ?_ NB197_214.out _; (with_reducible repeat (first | refine blk_drewN ?_ _ | refine blk_drew ?_ | refine blk_alloc ?_ _)); refine blk_far ?_ NB197_214.out _; (with_reducible repeat (first | refine blk_drewN ?_ _ | refine blk_drew ?_ | refine blk_alloc ?_ _)); exact BK197.out) hb); have n4_ := Aside0.mk (blk_below (g := gb198) (o := .cells #[.string x199000_2, .bool x199001_2] 23 (0, 0)) (by (with_reducible repeat (first | refine blk_drewN ?_ _ | refine blk_drew ?_ | refine blk_alloc ?_ _)); refine blk_far ?_ NB198_214.out _; (with_reducible repeat (first | refine blk_drewN ?_ _ | refine blk_drew ?_ | refine blk_alloc ?_ _)); refine blk_far ?_ NB198_214.out _; (with_reducible repeat (first | refine blk_drewN ?_ _ | refine blk_drew ?_ | refine blk_alloc ?_ _)); exact BK198.out) hb); have n5_ := Aside0.mk (blk_below (g := gb214) (o := .cells #[.string t209, .bool t210] 23 (0, 0)) (by (with_reducible repeat (first | refine blk_drewN ?_ _ | refine blk_drew ?_ | refine blk_alloc ?_ _)); refine blk_put (cs := #[.string t209, .bool false]) ?_ 1 _ rfl; (with_reducible repeat (first | refine blk_drewN ?_ _ | refine blk_drew ?_ | refine blk_alloc ?_ _)); refine blk_put (cs := #[.string (⟨#[]⟩ : ByteArray), .bool false]) ?_ 0 _ rfl; (with_reducible repeat (first | refine blk_drewN ?_ _ | refine blk_drew ?_ | refine blk_alloc ?_ _)); exact BK214.out) hb); have n6_ := Aside0.mk (below_step (by repeat (first | (with_reducible first | exact HB.out | apply below_alloc | apply pw_below_drewN | apply below_drew1 | refine below_set ?_ GE197.out | refine below_set ?_ GE198.out | refine below_set ?_ GE214.out) | exact HB.out)) hb); clear HO_6; clear HO_8; clear HO213; clear BK197; clear BK198; clear BK214; clear HB; have HO_6 := n0_; have HO_8 := n1_; have HO213 := n2_; have BK197 := n3_; have BK198 := n4_; have BK214 := n5_; have HB := n6_; clear n0_ n1_ n2_ n3_ n4_ n5_ n6_; (try clear hb); (try clear hb2); (try clear hk); (try clear hi)))
                go_ret
                exact ⟨by first | rfl | (simp [errW_none, errW_some] <;> rfl) | (simp [*, errW_none, errW_some] <;> rfl), by repeat (first | (with_reducible first | exact HB.out | apply below_alloc | apply pw_below_drewN | apply below_drew1 | refine below_set ?_ GE197.out | refine below_set ?_ GE198.out | refine below_set ?_ GE214.out) | exact HB.out)⟩

end Go.Proofs.Ytbjbhhamjpbgnaa.P

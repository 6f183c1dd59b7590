-- Written by a program of this session (wip/mkprint.py). Not trusted: Lean checks it.
import Derived.Test.YtfapfpkijeaapaaP0
import Derived.Test.YtfapfpkijeaapaaP2
import Derived.Test.YtfapfpkijeaapaaP8
import Derived.Test.YtfapfpkijeaapaaHandRec
import Derived.Test.YtfapfpkijeaapaaHandTrace
namespace Go.Proofs.Ytfapfpkijeaapaa.P
open Go.RowKit Go.Proofs.YtfapfpkijeaapaaW.PrintWords Go.Proofs.YtfapfpkijeaapaaW.PrintLast Go.Proofs.YtfapfpkijeaapaaW.PrintMore
attribute [local go_sem] max2_int min2_int max_two min_two max_three min_three max_four min_four   -- for this text's walks alone
set_option linter.unusedVariables false
set_option linter.unusedSimpArgs false

attribute [local go_sem high] eqA48
/-! ### law27_awake: function 7 -/
def law27_awake.f (k : Nat)  : Option (Bool) := (ref23_Put.f 0 0 1 0 0 0 1 0 0).bind fun bt162 => ((trace_Records.f k (([(⟨5, (-1), bt162.1⟩ : S40), (⟨2, 0, (⟨#[120]⟩ : ByteArray)⟩ : S40), (⟨5, (-1), bt162.1⟩ : S40)] : List (S40)))).bind fun bt167 => (if bt167.2 = true then (if (bt167.1.length : Int) = 2 then ((trace_Bytes.f (([(⟨2, 0, (⟨#[120]⟩ : ByteArray)⟩ : S40)] : List (S40))) 2 0).bind fun t174 => (some (t174.toList == ([120] : List UInt8)))) else (none)) else (none)))
theorem law27_awake.mono : ∀ k, LeO (law27_awake.f k ) (law27_awake.f (k + 1) ) := by
 intro  k
 unfold law27_awake.f
 repeat' first
  | (with_reducible exact trace_Records.mono _ _)
  | (with_reducible exact LeO.refl _)
  | (with_reducible exact LeO.none _)
  | (with_reducible refine LeO.ite ?_ ?_)
  | (with_reducible refine LeO.bind ?_ (fun _ => ?_))
  | exact trace_Records.mono _ _
  | exact LeO.none _
  | refine LeO.ite ?_ ?_
  | refine LeO.bind ?_ (fun _ => ?_)
set_option maxHeartbeats 8000000 in
set_option maxRecDepth 100000 in
theorem law27_awake.calls (k : Nat)  (r : Bool) (w : World) (h : law27_awake.f k  = some r) :
 Calls Try.prog 7 #[] w fun e w' => e = .returned (.bool r) ∧ Below w.heap.size w w' := by
 have hu48 := Try.underlying48
 have hu40 := Try.underlying40
 have HB := Aside0.mk (Below.refl w.heap.size w)
 have H : ((ref23_Put.f 0 0 1 0 0 0 1 0 0).bind fun bt162 => ((trace_Records.f k (([(⟨5, (-1), bt162.1⟩ : S40), (⟨2, 0, (⟨#[120]⟩ : ByteArray)⟩ : S40), (⟨5, (-1), bt162.1⟩ : S40)] : List (S40)))).bind fun bt167 => (if bt167.2 = true then (if (bt167.1.length : Int) = 2 then ((trace_Bytes.f (([(⟨2, 0, (⟨#[120]⟩ : ByteArray)⟩ : S40)] : List (S40))) 2 0).bind fun t174 => (some (t174.toList == ([120] : List UInt8)))) else (none)) else (none)))) = some r := h
 clear h
 replace H := Option.bind_eq_some_iff.mp H
 obtain ⟨⟨t162, t163⟩, A10, H⟩ := H
 replace H : ((trace_Records.f k (([(⟨5, (-1), t162⟩ : S40), (⟨2, 0, (⟨#[120]⟩ : ByteArray)⟩ : S40), (⟨5, (-1), t162⟩ : S40)] : List (S40)))).bind fun bt167 => (if bt167.2 = true then (if (bt167.1.length : Int) = 2 then ((trace_Bytes.f (([(⟨2, 0, (⟨#[120]⟩ : ByteArray)⟩ : S40)] : List (S40))) 2 0).bind fun t174 => (some (t174.toList == ([120] : List UInt8)))) else (none)) else (none))) = some r := H
 have A1 := Aside0.mk A10
 clear A10
 obtain ⟨y164, hy164⟩ : ∃ y_ : List (S40), y_ = (([(⟨5, (-1), t162⟩ : S40), (⟨2, 0, (⟨#[120]⟩ : ByteArray)⟩ : S40), (⟨5, (-1), t162⟩ : S40)] : List (S40))) := ⟨_, rfl⟩
 replace H : ((trace_Records.f k y164).bind fun bt167 => (if bt167.2 = true then (if (bt167.1.length : Int) = 2 then ((trace_Bytes.f (([(⟨2, 0, (⟨#[120]⟩ : ByteArray)⟩ : S40)] : List (S40))) 2 0).bind fun t174 => (some (t174.toList == ([120] : List UInt8)))) else (none)) else (none))) = some r := by first | (rw [hy164]; with_reducible exact H) | (have H2_ := (Option.bind_some _ _).symm.trans H; rw [hy164]; with_reducible exact H2_) | (have H2_ := (Option.bind_some _ _).symm.trans H; with_reducible exact H2_) | with_reducible exact H | (rw [hy164]; exact H) | exact H
 have Ny164 := Aside0.mk hy164
 clear hy164
 replace H := Option.bind_eq_some_iff.mp H
 obtain ⟨⟨t167, t168⟩, A20, H⟩ := H
 replace H : (if t168 = true then (if (t167.length : Int) = 2 then ((trace_Bytes.f (([(⟨2, 0, (⟨#[120]⟩ : ByteArray)⟩ : S40)] : List (S40))) 2 0).bind fun t174 => (some (t174.toList == ([120] : List UInt8)))) else (none)) else (none)) = some r := H
 have A2 := Aside0.mk A20
 clear A20
 by_cases c3 : t168 = true
 ·subst c3
  have H1 : (if (t167.length : Int) = 2 then ((trace_Bytes.f (([(⟨2, 0, (⟨#[120]⟩ : ByteArray)⟩ : S40)] : List (S40))) 2 0).bind fun t174 => (some (t174.toList == ([120] : List UInt8)))) else (none)) = some r := by rw [if_pos rfl] at H; exact H
  clear H
  have H := H1
  clear H1
  by_cases c4 : (t167.length : Int) = 2
  rotate_left
  ·rw [if_neg c4] at H
   exact absurd H (by simp)
  rw [if_pos c4] at H
  have c4b0 : ((t167.length : Int) == 2) = true := beq_iff_eq.mpr c4
  have c4b1 : ((t167.length : Int) != 2) = false := bne_eq_false_iff_eq.mpr c4
  clear c4
  obtain ⟨y171, hy171⟩ : ∃ y_ : List (S40), y_ = (([(⟨2, 0, (⟨#[120]⟩ : ByteArray)⟩ : S40)] : List (S40))) := ⟨_, rfl⟩
  replace H : ((trace_Bytes.f y171 2 0).bind fun t174 => (some (t174.toList == ([120] : List UInt8)))) = some r := by first | (rw [hy171]; with_reducible exact H) | (have H2_ := (Option.bind_some _ _).symm.trans H; rw [hy171]; with_reducible exact H2_) | (have H2_ := (Option.bind_some _ _).symm.trans H; with_reducible exact H2_) | with_reducible exact H | (rw [hy171]; exact H) | exact H
  have Ny171 := Aside0.mk hy171
  clear hy171
  replace H := Option.bind_eq_some_iff.mp H
  obtain ⟨t174, A50, H⟩ := H
  replace H : (some (t174.toList == ([120] : List UInt8))) = some r := H
  have A5 := Aside0.mk A50
  clear A50
  obtain rfl := Option.some.inj H
  go_enter Try.func7, Try.ntmps7
  go_wp2_with (first | ((with_reducible refine gate_callee (f := 19) rfl ?_); refine goesL_ (some 7) rfl rfl Try.func19 (by kernel_rfl) rfl #[.agg #[.int .i64 0, .int .i64 0, .int .i64 1, .int .i64 0, .int .i64 0, .int .i64 0, .int .i64 1, .int .i64 0, .int .i64 0]] rfl (by (try simp only [zO, zP, zQ]); first | done | rfl | (simp only [zS, zR]; rfl)) ?_; (with_reducible refine (ref23_Put.calls 0 0 1 0 0 0 1 0 0 t162 t163 _ A1.out).mono ?_); rintro e w6 ⟨rfl, hb⟩; refine ⟨_, rfl, ?_⟩; have n0_ := Aside0.mk (zU (by repeat (first | (with_reducible first | exact HB.out | apply zF | apply zD | apply zE) | exact HB.out)) hb); clear HB; have HB := n0_; clear n0_; (try clear hb); (try clear hb2); (try clear hk); (try clear hi)) | ((with_reducible refine gate_dst (N := 16) rfl ?_); (try (refine gate_guard (by rfl) ?_; dsimp only)); refine Kd.R_lit k40 _ 40 ?hg (N := 16) ?hd (xs := ([(⟨5, (-1), t162⟩ : S40), (⟨2, 0, (⟨#[120]⟩ : ByteArray)⟩ : S40), (⟨5, (-1), t162⟩ : S40)] : List (S40))) (inner := [.int .i64 5, .int .i64 (-1), .string t162, .int .i64 2, .int .i64 0, .string (⟨#[120]⟩ : ByteArray), .int .i64 5, .int .i64 (-1), .string t162]) (ok := fun _ => True) (okp := fun _ => True) ?hr ?hp (fun _ hk => hk) trivial (Below.refl _ _) (Nat.le_refl _) (by simp) ?_; (case hd => rfl); (case hg => rfl); (case hr => first | (go_simp; done) | (go_simp; rfl)); (case hp => exact (Reps.c3 (show Kd.M k40 _ _ _ (⟨5, (-1), t162⟩ : S40) [.int .i64 5, .int .i64 (-1), .string t162] from (k40_mkM _ _ _ (⟨5, (-1), t162⟩ : S40) )) (Reps.c3 (show Kd.M k40 _ _ _ (⟨2, 0, (⟨#[120]⟩ : ByteArray)⟩ : S40) [.int .i64 2, .int .i64 0, .string (⟨#[120]⟩ : ByteArray)] from (k40_mkM _ _ _ (⟨2, 0, (⟨#[120]⟩ : ByteArray)⟩ : S40) )) (Reps.c3 (show Kd.M k40 _ _ _ (⟨5, (-1), t162⟩ : S40) [.int .i64 5, .int .i64 (-1), .string t162] from (k40_mkM _ _ _ (⟨5, (-1), t162⟩ : S40) )) (Reps.none _ _))))); intro v165 w7 ho8 hb hg_ hnew_; clear hg_ hnew_; (first | rw [← Ny164.out] at ho8 | (simp only [Int.reduceToNat] at ho8; rw [← Ny164.out] at ho8)); have n0_ := Aside0.mk (Kd.R_lower ho8 (zT (by repeat (first | (with_reducible first | exact HB.out | apply zF | apply zD | apply zE) | exact HB.out)))); have n1_ := Aside0.mk (zU (by repeat (first | (with_reducible first | exact HB.out | apply zF | apply zD | apply zE) | exact HB.out)) hb); clear HB; have HO166 := n0_; have HB := n1_; clear n0_ n1_; clear hb ho8; obtain ⟨Ao9, co9, eo9⟩ := Kd.R_slice HO166.out; subst eo9) | ((with_reducible refine gate_callee (f := 8) rfl ?_); refine goesL_ (some 17) rfl rfl Try.func8 (by kernel_rfl) rfl #[.slice Ao9 y164.length co9] rfl (by (try simp only [zO, zP, zQ]); first | done | rfl | (simp only [zS, zR]; rfl)) ?_; (with_reducible refine (trace_Records.calls k _ _ y164 t167 true _ ?side1 ?side2 A2.out).mono ?_); (case side1 => repeat (first | exact (Kd.R_reads' HO166.out).2.2 | (with_reducible refine Kd.C_alloc ?_ _) | (with_reducible refine Kd.C_drewN ?_ _) | (with_reducible refine Kd.C_drew ?_))); (case side2 => exact (Kd.R_reads' HO166.out).2.1); rintro e w10 ⟨v169, rfl, ho0, hb⟩; refine ⟨_, rfl, ?_⟩; have n0_ := Aside0.mk (Kd.R_below (by (with_reducible repeat (first | apply zY | apply zX | apply zZ)); exact HO166.out) hb); have n1_ := Aside0.mk (Kd.R_lower ho0 (zT (by repeat (first | (with_reducible first | exact HB.out | apply zF | apply zD | apply zE) | exact HB.out)))); have n2_ := Aside0.mk (zU (by repeat (first | (with_reducible first | exact HB.out | apply zF | apply zD | apply zE) | exact HB.out)) hb); clear HO166; clear HB; have HO166 := n0_; have HO170 := n1_; have HB := n2_; clear n0_ n1_ n2_; (try clear hb); (try clear hb2); (try clear hk); (try clear hi); (try clear ho0); obtain ⟨Ao11, co11, eo11⟩ := Kd.R_slice HO170.out; subst eo11) | ((with_reducible refine gate_dst (N := 28) rfl ?_); (try (refine gate_guard (by rfl) ?_; dsimp only)); refine Kd.R_lit k40 _ 40 ?hg (N := 28) ?hd (xs := ([(⟨2, 0, (⟨#[120]⟩ : ByteArray)⟩ : S40)] : List (S40))) (inner := [.int .i64 2, .int .i64 0, .string (⟨#[120]⟩ : ByteArray)]) (ok := fun _ => True) (okp := fun _ => True) ?hr ?hp (fun _ hk => hk) trivial (Below.refl _ _) (Nat.le_refl _) (by simp) ?_; (case hd => rfl); (case hg => rfl); (case hr => first | (go_simp; done) | (go_simp; rfl)); (case hp => exact (Reps.c3 (show Kd.M k40 _ _ _ (⟨2, 0, (⟨#[120]⟩ : ByteArray)⟩ : S40) [.int .i64 2, .int .i64 0, .string (⟨#[120]⟩ : ByteArray)] from (k40_mkM _ _ _ (⟨2, 0, (⟨#[120]⟩ : ByteArray)⟩ : S40) )) (Reps.none _ _))); intro v172 w12 ho13 hb hg_ hnew_; clear hg_ hnew_; (first | rw [← Ny171.out] at ho13 | (simp only [Int.reduceToNat] at ho13; rw [← Ny171.out] at ho13)); have n0_ := Aside0.mk (Kd.R_elder' (by (with_reducible repeat (first | apply zY | apply zX | apply zZ)); exact HO166.out) (Kd.R_base ho13) hb); have n1_ := Aside0.mk (Kd.R_below (by (with_reducible repeat (first | apply zY | apply zX | apply zZ)); exact HO170.out) hb); have n2_ := Aside0.mk (Kd.R_lower (Kd.R_new' ho13 (Kd.R_lt (by (with_reducible repeat (first | apply zY | apply zX | apply zZ)); exact HO166.out))) (zT (by repeat (first | (with_reducible first | exact HB.out | apply zF | apply zD | apply zE) | exact HB.out)))); have n3_ := Aside0.mk (zU (by repeat (first | (with_reducible first | exact HB.out | apply zF | apply zD | apply zE) | exact HB.out)) hb); clear HO166; clear HO170; clear HB; have HO166 := n0_; have HO170 := n1_; have HO173 := n2_; have HB := n3_; clear n0_ n1_ n2_ n3_; clear hb ho13; obtain ⟨Ao14, co14, eo14⟩ := Kd.R_slice HO173.out; subst eo14) | (go_at_call 9; (with_reducible refine (trace_Bytes.calls _ _ y171 2 0 t174 _ ?side1 ?side2 A5.out).mono ?_); (case side1 => repeat (first | exact (Kd.R_reads' HO173.out).2.2 | (with_reducible refine Kd.C_alloc ?_ _) | (with_reducible refine Kd.C_drewN ?_ _) | (with_reducible refine Kd.C_drew ?_))); (case side2 => exact (Kd.R_reads' HO173.out).2.1); rintro e w15 ⟨rfl, hb⟩; have n0_ := Aside0.mk (Kd.R_below (by (with_reducible repeat (first | apply zY | apply zX | apply zZ)); exact HO166.out) hb); have n1_ := Aside0.mk (Kd.R_below (by (with_reducible repeat (first | apply zY | apply zX | apply zZ)); exact HO170.out) hb); have n2_ := Aside0.mk (Kd.R_below (by (with_reducible repeat (first | apply zY | apply zX | apply zZ)); exact HO173.out) hb); have n3_ := Aside0.mk (zU (by repeat (first | (with_reducible first | exact HB.out | apply zF | apply zD | apply zE) | exact HB.out)) hb); clear HO166; clear HO170; clear HO173; clear HB; have HO166 := n0_; have HO170 := n1_; have HO173 := n2_; have HB := n3_; clear n0_ n1_ n2_ n3_; (try clear hb); (try clear hb2); (try clear hk); (try clear hi)))
  go_ret
  exact ⟨by first | rfl | (simp [errW_none, errW_some] <;> rfl) | (simp [*, errW_none, errW_some] <;> rfl), by repeat (first | (with_reducible first | exact HB.out | apply zF | apply zD | apply zE) | exact HB.out)⟩
 ·replace c3 := Bool.eq_false_iff.mpr c3
  subst c3
  have H1 : (none) = some r := by rw [if_neg (show ¬ (false = true) by decide)] at H; exact H
  clear H
  have H := H1
  clear H1
  exact absurd H (by simp)

/-! ### trace_Closes_1: function 25 -/
def trace_Closes_1.f (a0_0 : Int) (a0_1 : Int) (a0_2 : ByteArray) (l1 : List Int) : Option (Bool) := if a0_0 = 4 then (some true) else (if a0_0 = 3 then (if 0 < (l1.length : Int) then (some (a0_1 == (rd l1 0))) else (none)) else (some false))
set_option maxHeartbeats 8000000 in
set_option maxRecDepth 100000 in
theorem trace_Closes_1.calls (a0_0 : Int) (a0_1 : Int) (a0_2 : ByteArray) (A1 : Option Addr) (c1 : Nat) (l1 : List Int) (r : Bool) (w : World) (hr1 : Kd.C (Kd.int .i64) w A1 l1.length l1) (hc1 : l1.length ≤ c1) (h : trace_Closes_1.f a0_0 a0_1 a0_2 l1 = some r) :
 Calls Try.prog 25 #[.agg #[.int .i64 a0_0, .int .i64 a0_1, .string a0_2], .pointer A1] w fun e w' => e = .returned (.bool r) ∧ Below w.heap.size w w' := by
 have hu40 := Try.underlying40
 have HR1 := Aside0.mk hr1
 have HC1 := Aside0.mk hc1
 clear hr1 hc1
 have HB := Aside0.mk (Below.refl w.heap.size w)
 have H : (if a0_0 = 4 then (some true) else (if a0_0 = 3 then (if 0 < (l1.length : Int) then (some (a0_1 == (rd l1 0))) else (none)) else (some false))) = some r := h
 clear h
 by_cases c3 : a0_0 = 4
 ·rw [if_pos c3] at H
  have c3b0 : (a0_0 == 4) = true := beq_iff_eq.mpr c3
  have c3b1 : (a0_0 != 4) = false := bne_eq_false_iff_eq.mpr c3
  clear c3
  obtain rfl := Option.some.inj H
  go_enter Try.func25, Try.ntmps25
  go_wp2_with (first | ((with_reducible refine gate_dst (N := 2) rfl ?_); refine box_event ?hg (N := 2) ?hd (cs := #[.int .i64 a0_0, .int .i64 a0_1, .string a0_2]) (t := 40) ?hr ?_; (case hd => rfl); (case hg => rfl); (case hr => first | (go_simp; done) | (go_simp; rfl)); intro gb175 hg w4 hbox hb; have n0_ := Aside0.mk (zU (by repeat (first | (with_reducible first | exact HB.out | apply zF | apply zD | apply zE) | exact HB.out)) hb); have n1_ := Aside0.mk (hbox); have n2_ := Aside0.mk ((by rw [hg]; exact (zT (by repeat (first | (with_reducible first | exact HB.out | apply zF | apply zD | apply zE) | exact HB.out))) : w.heap.size ≤ gb175)); have n3_ := Aside0.mk ((by rw [hg]; exact (zT (by repeat (first | (with_reducible first | exact HB.out | apply zF | apply zD | apply zE) | exact HB.out))) : w.heap.size ≤ gb175)); clear HB; have HB := n0_; have BK175 := n1_; have GW175 := n2_; have GE175 := n3_; clear n0_ n1_ n2_ n3_; clear hb hbox hg; have hcz5_0 : w4.cell? ⟨gb175, 0, none⟩ = some (.int .i64 a0_0) := (zK BK175.out 0).trans rfl; have hcz5_1 : w4.cell? ⟨gb175, 1, none⟩ = some (.int .i64 a0_1) := (zK BK175.out 1).trans rfl; have hcz5_2 : w4.cell? ⟨gb175, 2, none⟩ = some (.string a0_2) := (zK BK175.out 2).trans rfl; have hfz5_0 := zL BK175.out 0; have hfz5_1 := zL BK175.out 1; have hfz5_2 := zL BK175.out 2))
  go_ret
  exact ⟨by first | rfl | (simp [errW_none, errW_some] <;> rfl) | (simp [*, errW_none, errW_some] <;> rfl), by repeat (first | (with_reducible first | exact HB.out | apply zF | apply zD | apply zE | refine zJ ?_ GE175.out) | exact HB.out)⟩
 ·rw [if_neg c3] at H
  have c3b0 : (a0_0 == 4) = false := beq_eq_false_iff_ne.mpr c3
  have c3b1 : (a0_0 != 4) = true := bne_iff_ne.mpr c3
  by_cases c6 : a0_0 = 3
  ·rw [if_pos c6] at H
   have c6b0 : (a0_0 == 3) = true := beq_iff_eq.mpr c6
   have c6b1 : (a0_0 != 3) = false := bne_eq_false_iff_eq.mpr c6
   clear c6
   by_cases c7 : 0 < (l1.length : Int)
   rotate_left
   ·rw [if_neg c7] at H
    exact absurd H (by simp)
   rw [if_pos c7] at H
   have c7b0 : decide (0 < (l1.length : Int)) = true := zW c7
   have c7b1 : decide (0 < l1.length) = true := zW (by omega)
   clear c7
   obtain rfl := Option.some.inj H
   go_enter Try.func25, Try.ntmps25
   go_wp2_with (first | ((with_reducible refine gate_dst (N := 2) rfl ?_); refine box_event ?hg (N := 2) ?hd (cs := #[.int .i64 a0_0, .int .i64 a0_1, .string a0_2]) (t := 40) ?hr ?_; (case hd => rfl); (case hg => rfl); (case hr => first | (go_simp; done) | (go_simp; rfl)); intro gb175 hg w8 hbox hb; have n0_ := Aside0.mk (zU (by repeat (first | (with_reducible first | exact HB.out | apply zF | apply zD | apply zE) | exact HB.out)) hb); have n1_ := Aside0.mk (hbox); have n2_ := Aside0.mk ((by rw [hg]; exact (zT (by repeat (first | (with_reducible first | exact HB.out | apply zF | apply zD | apply zE) | exact HB.out))) : w.heap.size ≤ gb175)); have n3_ := Aside0.mk ((by rw [hg]; exact (zT (by repeat (first | (with_reducible first | exact HB.out | apply zF | apply zD | apply zE) | exact HB.out))) : w.heap.size ≤ gb175)); clear HB; have HB := n0_; have BK175 := n1_; have GW175 := n2_; have GE175 := n3_; clear n0_ n1_ n2_ n3_; clear hb hbox hg; have hcz9_0 : w8.cell? ⟨gb175, 0, none⟩ = some (.int .i64 a0_0) := (zK BK175.out 0).trans rfl; have hcz9_1 : w8.cell? ⟨gb175, 1, none⟩ = some (.int .i64 a0_1) := (zK BK175.out 1).trans rfl; have hcz9_2 : w8.cell? ⟨gb175, 2, none⟩ = some (.string a0_2) := (zK BK175.out 2).trans rfl; have hfz9_0 := zL BK175.out 0; have hfz9_1 := zL BK175.out 1; have hfz9_2 := zL BK175.out 2; have p176 : 0 ≤ (0 : Int) := (by omega); have q176 : 0 < (l1.length : Int) := zV (by first | (with_reducible assumption) | assumption); obtain ⟨ad176, e176, hx176_0⟩ := Kd.at_int HR1.out 0 p176 q176; cases e176; have qi176 : (0 < l1.length) = True := eq_true (by omega); (try rw [show ((0 : Int)).toNat = 0 from rfl] at hx176_0); (try rw [Addr.add_zero'] at hx176_0); replace hx176_0 := (HB.out.cell (World.block_lt_of_cell? w _ hx176_0)).trans hx176_0; replace p176 := eq_true p176; replace q176 := eq_true q176))
   go_ret
   exact ⟨by first | rfl | (simp [errW_none, errW_some] <;> rfl) | (simp [*, errW_none, errW_some] <;> rfl), by repeat (first | (with_reducible first | exact HB.out | apply zF | apply zD | apply zE | refine zJ ?_ GE175.out) | exact HB.out)⟩
  ·rw [if_neg c6] at H
   have c6b0 : (a0_0 == 3) = false := beq_eq_false_iff_ne.mpr c6
   have c6b1 : (a0_0 != 3) = true := bne_iff_ne.mpr c6
   obtain rfl := Option.some.inj H
   go_enter Try.func25, Try.ntmps25
   go_wp2_with (first | ((with_reducible refine gate_dst (N := 2) rfl ?_); refine box_event ?hg (N := 2) ?hd (cs := #[.int .i64 a0_0, .int .i64 a0_1, .string a0_2]) (t := 40) ?hr ?_; (case hd => rfl); (case hg => rfl); (case hr => first | (go_simp; done) | (go_simp; rfl)); intro gb175 hg w10 hbox hb; have n0_ := Aside0.mk (zU (by repeat (first | (with_reducible first | exact HB.out | apply zF | apply zD | apply zE) | exact HB.out)) hb); have n1_ := Aside0.mk (hbox); have n2_ := Aside0.mk ((by rw [hg]; exact (zT (by repeat (first | (with_reducible first | exact HB.out | apply zF | apply zD | apply zE) | exact HB.out))) : w.heap.size ≤ gb175)); have n3_ := Aside0.mk ((by rw [hg]; exact (zT (by repeat (first | (with_reducible first | exact HB.out | apply zF | apply zD | apply zE) | exact HB.out))) : w.heap.size ≤ gb175)); clear HB; have HB := n0_; have BK175 := n1_; have GW175 := n2_; have GE175 := n3_; clear n0_ n1_ n2_ n3_; clear hb hbox hg; have hcz11_0 : w10.cell? ⟨gb175, 0, none⟩ = some (.int .i64 a0_0) := (zK BK175.out 0).trans rfl; have hcz11_1 : w10.cell? ⟨gb175, 1, none⟩ = some (.int .i64 a0_1) := (zK BK175.out 1).trans rfl; have hcz11_2 : w10.cell? ⟨gb175, 2, none⟩ = some (.string a0_2) := (zK BK175.out 2).trans rfl; have hfz11_0 := zL BK175.out 0; have hfz11_1 := zL BK175.out 1; have hfz11_2 := zL BK175.out 2))
   go_ret
   exact ⟨by first | rfl | (simp [errW_none, errW_some] <;> rfl) | (simp [*, errW_none, errW_some] <;> rfl), by repeat (first | (with_reducible first | exact HB.out | apply zF | apply zD | apply zE | refine zJ ?_ GE175.out) | exact HB.out)⟩

-- NOT PRINTED: function 22 (trace_those__Closes_1)

/-! ### ref23_Same: function 11 -/
def ref23_Same.l0 : Nat → List (S48) → List (S48) → Int → Option (Bool)
 | 0, _, _, _ => none
 | k + 1, x0, x1, x5 => if x5 < (x0.length : Int) then (if 0 ≤ x5 then (if x5 < (x1.length : Int) then (if (!(((rd_T48 x0 x5).f0) == ((rd_T48 x1 x5).f0)) || (!(((rd_T48 x0 x5).f1) == ((rd_T48 x1 x5).f1)) || (!(((rd_T48 x0 x5).f2) == ((rd_T48 x1 x5).f2)) || (!(((rd_T48 x0 x5).f3) == ((rd_T48 x1 x5).f3)) || (!(((rd_T48 x0 x5).f4) == ((rd_T48 x1 x5).f4)) || (!(((rd_T48 x0 x5).f5) == ((rd_T48 x1 x5).f5)) || (!(((rd_T48 x0 x5).f6) == ((rd_T48 x1 x5).f6)) || (!(((rd_T48 x0 x5).f7) == ((rd_T48 x1 x5).f7)) || (!(((rd_T48 x0 x5).f8) == ((rd_T48 x1 x5).f8))))))))))) = true then (some false) else (ref23_Same.l0 k x0 x1 (wrap64 (x5 + 1)))) else (none)) else (none)) else (some true)
def ref23_Same.f (k : Nat) (l0 : List (S48)) (l1 : List (S48)) : Option (Bool) := if (l0.length : Int) = (l1.length : Int) then (ref23_Same.l0 k l0 l1 0) else (some false)
theorem ref23_Same.mono_l : ∀ k, (∀ y0 y1 y2, LeO (ref23_Same.l0 k y0 y1 y2) (ref23_Same.l0 (k + 1) y0 y1 y2))
 | 0 => fun _ _ _ r h => by simp [ref23_Same.l0] at h
 | k + 1 => by
  have ih0 := ref23_Same.mono_l k
  ·intro y0 y1 y2
   unfold ref23_Same.l0
   repeat' first
   | (with_reducible exact ih0 _ _ _)
   | (with_reducible exact LeO.refl _)
   | (with_reducible exact LeO.none _)
   | (with_reducible refine LeO.ite ?_ ?_)
   | (with_reducible refine LeO.bind ?_ (fun _ => ?_))
   | exact ih0 _ _ _
   | exact LeO.none _
   | refine LeO.ite ?_ ?_
   | refine LeO.bind ?_ (fun _ => ?_)
theorem ref23_Same.mono : ∀ a0 a1 k, LeO (ref23_Same.f k a0 a1) (ref23_Same.f (k + 1) a0 a1) := by
 intro a0 a1 k
 have ih0 := ref23_Same.mono_l k
 unfold ref23_Same.f
 repeat' first
  | (with_reducible exact ih0 _ _ _)
  | (with_reducible exact LeO.refl _)
  | (with_reducible exact LeO.none _)
  | (with_reducible refine LeO.ite ?_ ?_)
  | (with_reducible refine LeO.bind ?_ (fun _ => ?_))
  | exact ih0 _ _ _
  | exact LeO.none _
  | refine LeO.ite ?_ ?_
  | refine LeO.bind ?_ (fun _ => ?_)
set_option maxHeartbeats 8000000 in
set_option maxRecDepth 100000 in
theorem ref23_Same.calls (k : Nat) (A0 : Option Addr) (c0 : Nat) (l0 : List (S48)) (A1 : Option Addr) (c1 : Nat) (l1 : List (S48)) (r : Bool) (w : World) (hr0 : Kd.C k48 w A0 l0.length l0) (hc0 : l0.length ≤ c0) (hr1 : Kd.C k48 w A1 l1.length l1) (hc1 : l1.length ≤ c1) (h : ref23_Same.f k l0 l1 = some r) :
 Calls Try.prog 11 #[.slice A0 l0.length c0, .slice A1 l1.length c1] w fun e w' => e = .returned (.bool r) ∧ Drawn0 w w' := by
 have hu48 := Try.underlying48
 have HR0 := Aside0.mk hr0
 have HC0 := Aside0.mk hc0
 clear hr0 hc0
 have HR1 := Aside0.mk hr1
 have HC1 := Aside0.mk hc1
 clear hr1 hc1
 have H : (if (l0.length : Int) = (l1.length : Int) then (ref23_Same.l0 k l0 l1 0) else (some false)) = some r := h
 clear h
 by_cases c3 : (l0.length : Int) = (l1.length : Int)
 ·rw [if_pos c3] at H
  have c3b0 : ((l0.length : Int) == (l1.length : Int)) = true := beq_iff_eq.mpr c3
  have c3b1 : ((l0.length : Int) != (l1.length : Int)) = false := bne_eq_false_iff_eq.mpr c3
  have c3b2 : (l0.length == l1.length) = true := by first | simpa using c3 | (simp at c3 ⊢; omega)
  clear c3
  have H' := Aside0.mk H
  clear H
  go_enter Try.func11, Try.ntmps11
  go_wp2
  repeat (go_quiet (fail); try go_wp2)
  go_loopg [5] k (fun kq v5 w' => ∃ (x5_1 : Int), v5 = .int .i64 x5_1 ∧ Aside0 (ref23_Same.l0 kq l0 l1 x5_1 = some r) ∧ Aside0 (kq ≤ k) ∧ Drawn0 w w')
  case atStart => exact ⟨(0), (by first | rfl | (simp; done) | (simp [*]; done) | (simp [bne_nil_]; done)), H', ⟨Nat.le_refl _⟩, by repeat (first | exact Drawn0.refl _ | apply Drawn0.step)⟩
  case round =>
   clear H'
   try clear c1
   try clear p2
   try clear c3
   try clear c3b0
   try clear c3b1
   try clear c3b2
   obtain ⟨x5_1, rfl, HA, HK1, ⟨m1, rfl⟩⟩ := hrel
   cases gk with
   | zero => exact absurd HA.out (by simp [ref23_Same.l0])
   | succ k1 =>
    have H := HA.out
    clear HA
    simp only [ref23_Same.l0] at H
    by_cases c4 : x5_1 < (l0.length : Int)
    ·rw [if_pos c4] at H
     have c4b0 : decide (x5_1 < (l0.length : Int)) = true := zW c4
     clear c4
     by_cases c5 : 0 ≤ x5_1
     rotate_left
     ·rw [if_neg c5] at H
      exact absurd H (by simp)
     rw [if_pos c5] at H
     have c5b0 : decide (0 ≤ x5_1) = true := zW c5
     clear c5
     by_cases c6 : x5_1 < (l1.length : Int)
     rotate_left
     ·rw [if_neg c6] at H
      exact absurd H (by simp)
     rw [if_pos c6] at H
     have c6b0 : decide (x5_1 < (l1.length : Int)) = true := zW c6
     clear c6
     by_cases c7 : (!(((rd_T48 l0 x5_1).f0) == ((rd_T48 l1 x5_1).f0)) || (!(((rd_T48 l0 x5_1).f1) == ((rd_T48 l1 x5_1).f1)) || (!(((rd_T48 l0 x5_1).f2) == ((rd_T48 l1 x5_1).f2)) || (!(((rd_T48 l0 x5_1).f3) == ((rd_T48 l1 x5_1).f3)) || (!(((rd_T48 l0 x5_1).f4) == ((rd_T48 l1 x5_1).f4)) || (!(((rd_T48 l0 x5_1).f5) == ((rd_T48 l1 x5_1).f5)) || (!(((rd_T48 l0 x5_1).f6) == ((rd_T48 l1 x5_1).f6)) || (!(((rd_T48 l0 x5_1).f7) == ((rd_T48 l1 x5_1).f7)) || (!(((rd_T48 l0 x5_1).f8) == ((rd_T48 l1 x5_1).f8))))))))))) = true
     ·rw [if_pos c7] at H
      have c7b0 : (!(((rd_T48 l0 x5_1).f0) == ((rd_T48 l1 x5_1).f0)) || (!(((rd_T48 l0 x5_1).f1) == ((rd_T48 l1 x5_1).f1)) || (!(((rd_T48 l0 x5_1).f2) == ((rd_T48 l1 x5_1).f2)) || (!(((rd_T48 l0 x5_1).f3) == ((rd_T48 l1 x5_1).f3)) || (!(((rd_T48 l0 x5_1).f4) == ((rd_T48 l1 x5_1).f4)) || (!(((rd_T48 l0 x5_1).f5) == ((rd_T48 l1 x5_1).f5)) || (!(((rd_T48 l0 x5_1).f6) == ((rd_T48 l1 x5_1).f6)) || (!(((rd_T48 l0 x5_1).f7) == ((rd_T48 l1 x5_1).f7)) || (!(((rd_T48 l0 x5_1).f8) == ((rd_T48 l1 x5_1).f8))))))))))) = true := c7
      clear c7
      obtain rfl := Option.some.inj H
      have p177 : 0 ≤ (x5_1 : Int) := zV (by first | (with_reducible assumption) | assumption)
      have q177 : x5_1 < (l0.length : Int) := zV (by first | (with_reducible assumption) | assumption)
      obtain ⟨ad177, e177, hx177_0, hx177_1, hx177_2, hx177_3, hx177_4, hx177_5, hx177_6, hx177_7, hx177_8⟩ := at_T48 HR0.out x5_1 p177 q177
      cases e177
      replace p177 := eq_true p177
      replace q177 := eq_true q177
      have p178 : 0 ≤ (x5_1 : Int) := zV (by first | (with_reducible assumption) | assumption)
      have q178 : x5_1 < (l1.length : Int) := zV (by first | (with_reducible assumption) | assumption)
      obtain ⟨ad178, e178, hx178_0, hx178_1, hx178_2, hx178_3, hx178_4, hx178_5, hx178_6, hx178_7, hx178_8⟩ := at_T48 HR1.out x5_1 p178 q178
      cases e178
      replace p178 := eq_true p178
      replace q178 := eq_true q178
      go_wp2
      repeat (go_quiet (fail); try go_wp2)
      go_ret
      exact ⟨by first | rfl | (simp; done) | (simp [*]; done), by repeat (first | exact Drawn0.refl _ | apply Drawn0.step)⟩
     ·rw [if_neg c7] at H
      have c7b0 : (!(((rd_T48 l0 x5_1).f0) == ((rd_T48 l1 x5_1).f0)) || (!(((rd_T48 l0 x5_1).f1) == ((rd_T48 l1 x5_1).f1)) || (!(((rd_T48 l0 x5_1).f2) == ((rd_T48 l1 x5_1).f2)) || (!(((rd_T48 l0 x5_1).f3) == ((rd_T48 l1 x5_1).f3)) || (!(((rd_T48 l0 x5_1).f4) == ((rd_T48 l1 x5_1).f4)) || (!(((rd_T48 l0 x5_1).f5) == ((rd_T48 l1 x5_1).f5)) || (!(((rd_T48 l0 x5_1).f6) == ((rd_T48 l1 x5_1).f6)) || (!(((rd_T48 l0 x5_1).f7) == ((rd_T48 l1 x5_1).f7)) || (!(((rd_T48 l0 x5_1).f8) == ((rd_T48 l1 x5_1).f8))))))))))) = false := by simpa using c7
      clear c7
      have H' := Aside0.mk H
      clear H
      have p177 : 0 ≤ (x5_1 : Int) := zV (by first | (with_reducible assumption) | assumption)
      have q177 : x5_1 < (l0.length : Int) := zV (by first | (with_reducible assumption) | assumption)
      obtain ⟨ad177, e177, hx177_0, hx177_1, hx177_2, hx177_3, hx177_4, hx177_5, hx177_6, hx177_7, hx177_8⟩ := at_T48 HR0.out x5_1 p177 q177
      cases e177
      replace p177 := eq_true p177
      replace q177 := eq_true q177
      have p178 : 0 ≤ (x5_1 : Int) := zV (by first | (with_reducible assumption) | assumption)
      have q178 : x5_1 < (l1.length : Int) := zV (by first | (with_reducible assumption) | assumption)
      obtain ⟨ad178, e178, hx178_0, hx178_1, hx178_2, hx178_3, hx178_4, hx178_5, hx178_6, hx178_7, hx178_8⟩ := at_T48 HR1.out x5_1 p178 q178
      cases e178
      replace p178 := eq_true p178
      replace q178 := eq_true q178
      go_wp2
      repeat (go_quiet (fail); try go_wp2)
      go_roundg k1
      case measure => have := HK1.out; omega
      case rel => exact ⟨(wrap64 (x5_1 + 1)), (by first | rfl | (simp; done) | (simp [*]; done) | (simp [bne_nil_]; done)), H', ⟨by have := HK1.out; omega⟩, by repeat (first | exact Drawn0.refl _ | apply Drawn0.step)⟩
    ·rw [if_neg c4] at H
     have c4b0 : decide (x5_1 < (l0.length : Int)) = false := decide_eq_false c4
     clear c4
     obtain rfl := Option.some.inj H
     go_wp2
     repeat (go_quiet (fail); try go_wp2)
     go_ret
     exact ⟨by first | rfl | (simp; done) | (simp [*]; done), by repeat (first | exact Drawn0.refl _ | apply Drawn0.step)⟩
 ·rw [if_neg c3] at H
  have c3b0 : ((l0.length : Int) == (l1.length : Int)) = false := beq_eq_false_iff_ne.mpr c3
  have c3b1 : ((l0.length : Int) != (l1.length : Int)) = true := bne_iff_ne.mpr c3
  have c3b2 : (l0.length == l1.length) = false := by first | simpa using c3 | (simp at c3 ⊢; omega)
  obtain rfl := Option.some.inj H
  go_enter Try.func11, Try.ntmps11
  go_wp2
  repeat (go_quiet (fail); try go_wp2)
  go_ret
  exact ⟨by first | rfl | (simp; done) | (simp [*]; done), by repeat (first | exact Drawn0.refl _ | apply Drawn0.step)⟩

end Go.Proofs.Ytfapfpkijeaapaa.P

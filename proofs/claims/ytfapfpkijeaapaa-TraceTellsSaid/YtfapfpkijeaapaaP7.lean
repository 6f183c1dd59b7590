-- Written by a program of this session (wip/mkprint.py). Not trusted: Lean checks it.
import Derived.Test.YtfapfpkijeaapaaP0
namespace Go.Proofs.Ytfapfpkijeaapaa.P
open Go.RowKit Go.Proofs.YtfapfpkijeaapaaW.PrintWords Go.Proofs.YtfapfpkijeaapaaW.PrintLast Go.Proofs.YtfapfpkijeaapaaW.PrintMore
attribute [local go_sem] max2_int min2_int max_two min_two max_three min_three max_four min_four   -- for this text's walks alone
set_option linter.unusedVariables false
set_option linter.unusedSimpArgs false

-- NOT PRINTED: function 52 (abi_NoEscape)

-- NOT PRINTED: function 47 (strings_Builder_copyCheck)

-- NOT PRINTED: function 34 (strings_Builder_WriteString)

-- NOT PRINTED: function 35 (strings_Builder_String)

-- NOT PRINTED: function 21 (trace_join)

/-! ### trace_Records_1: function 23 -/
def trace_Records_1.f (a0_0 : Int) (a0_1 : Int) (a0_2 : ByteArray) : Option (Bool) := some (a0_0 == 5)
set_option maxHeartbeats 8000000 in
set_option maxRecDepth 100000 in
theorem trace_Records_1.calls (a0_0 : Int) (a0_1 : Int) (a0_2 : ByteArray) (r : Bool) (w : World) (h : trace_Records_1.f a0_0 a0_1 a0_2 = some r) :
 Calls Try.prog 23 #[.agg #[.int .i64 a0_0, .int .i64 a0_1, .string a0_2]] w fun e w' => e = .returned (.bool r) ∧ Below w.heap.size w w' := by
 have hu40 := Try.underlying40
 have HB := Aside0.mk (Below.refl w.heap.size w)
 have H : (some (a0_0 == 5)) = some r := h
 clear h
 obtain rfl := Option.some.inj H
 go_enter Try.func23, Try.ntmps23
 go_wp2_with (first | ((with_reducible refine gate_dst (N := 1) rfl ?_); refine box_event ?hg (N := 1) ?hd (cs := #[.int .i64 a0_0, .int .i64 a0_1, .string a0_2]) (t := 40) ?hr ?_; (case hd => rfl); (case hg => rfl); (case hr => first | (go_simp; done) | (go_simp; rfl)); intro gb134 hg w2 hbox hb; have n0_ := Aside0.mk (zU (by repeat (first | (with_reducible first | exact HB.out | apply zF | apply zD | apply zE) | exact HB.out)) hb); have n1_ := Aside0.mk (hbox); have n2_ := Aside0.mk ((by rw [hg]; exact (zT (by repeat (first | (with_reducible first | exact HB.out | apply zF | apply zD | apply zE) | exact HB.out))) : w.heap.size ≤ gb134)); have n3_ := Aside0.mk ((by rw [hg]; exact (zT (by repeat (first | (with_reducible first | exact HB.out | apply zF | apply zD | apply zE) | exact HB.out))) : w.heap.size ≤ gb134)); clear HB; have HB := n0_; have BK134 := n1_; have GW134 := n2_; have GE134 := n3_; clear n0_ n1_ n2_ n3_; clear hb hbox hg; have hcz3_0 : w2.cell? ⟨gb134, 0, none⟩ = some (.int .i64 a0_0) := (zK BK134.out 0).trans rfl; have hcz3_1 : w2.cell? ⟨gb134, 1, none⟩ = some (.int .i64 a0_1) := (zK BK134.out 1).trans rfl; have hcz3_2 : w2.cell? ⟨gb134, 2, none⟩ = some (.string a0_2) := (zK BK134.out 2).trans rfl; have hfz3_0 := zL BK134.out 0; have hfz3_1 := zL BK134.out 1; have hfz3_2 := zL BK134.out 2))
 go_ret
 exact ⟨by first | rfl | (simp [errW_none, errW_some] <;> rfl) | (simp [*, errW_none, errW_some] <;> rfl), by repeat (first | (with_reducible first | exact HB.out | apply zF | apply zD | apply zE | refine zJ ?_ GE134.out) | exact HB.out)⟩

-- NOT PRINTED: function 36 (trace_those_1)

-- NOT PRINTED: function 22 (trace_those__Records_1)

-- NOT PRINTED: function 22 (trace_those)

-- NOT PRINTED: function 24 (trace_Bytes_1)

/-! ### ref01_Put: function 37 -/
def ref01_Put.f (a0 : Int) : Option (ByteArray × Bool) := if a0 < 0 then (some ((⟨#[]⟩ : ByteArray), false)) else (if a0 > 65535 then (some ((⟨#[]⟩ : ByteArray), false)) else (some (strOfNums (([(wrap64 (Int.tdiv a0 256)) % 256, (Int.tmod a0 256) % 256] : List Int)), true)))
set_option maxHeartbeats 8000000 in
set_option maxRecDepth 100000 in
theorem ref01_Put.calls (a0 : Int) (r1 : ByteArray) (r2 : Bool) (w : World) (h : ref01_Put.f a0 = some (r1, r2)) :
 Calls Try.prog 37 #[.int .i64 a0] w fun e w' => e = .returned (.tuple #[.string r1, .bool r2]) ∧ Below w.heap.size w w' := by
 have HB := Aside0.mk (Below.refl w.heap.size w)
 have H : (if a0 < 0 then (some ((⟨#[]⟩ : ByteArray), false)) else (if a0 > 65535 then (some ((⟨#[]⟩ : ByteArray), false)) else (some (strOfNums (([(wrap64 (Int.tdiv a0 256)) % 256, (Int.tmod a0 256) % 256] : List Int)), true)))) = some (r1, r2) := h
 clear h
 by_cases c2 : a0 < 0
 ·rw [if_pos c2] at H
  have c2b0 : decide (a0 < 0) = true := zW c2
  clear c2
  simp only [Option.some.injEq, Prod.mk.injEq] at H
  obtain ⟨rfl, rfl⟩ := H
  go_enter Try.func37, Try.ntmps37
  go_wp2
  go_ret2
  exact ⟨by first | rfl | (simp [errW_none, errW_some] <;> rfl) | (simp [*, errW_none, errW_some] <;> rfl), by repeat (first | (with_reducible first | exact HB.out | apply zF | apply zD | apply zE) | exact HB.out)⟩
 ·rw [if_neg c2] at H
  have c2b0 : decide (a0 < 0) = false := decide_eq_false c2
  clear c2
  by_cases c3 : a0 > 65535
  ·rw [if_pos c3] at H
   have c3b0 : decide (65535 < a0) = true := zW c3
   clear c3
   simp only [Option.some.injEq, Prod.mk.injEq] at H
   obtain ⟨rfl, rfl⟩ := H
   go_enter Try.func37, Try.ntmps37
   go_wp2
   go_ret2
   exact ⟨by first | rfl | (simp [errW_none, errW_some] <;> rfl) | (simp [*, errW_none, errW_some] <;> rfl), by repeat (first | (with_reducible first | exact HB.out | apply zF | apply zD | apply zE) | exact HB.out)⟩
  ·rw [if_neg c3] at H
   have c3b0 : decide (65535 < a0) = false := decide_eq_false c3
   clear c3
   obtain ⟨y136, hy136⟩ : ∃ y_ : List Int, y_ = (([(wrap64 (Int.tdiv a0 256)) % 256, (Int.tmod a0 256) % 256] : List Int)) := ⟨_, rfl⟩
   replace H : (some (strOfNums y136, true)) = some (r1, r2) := by first | (rw [hy136]; with_reducible exact H) | (have H2_ := (Option.bind_some _ _).symm.trans H; rw [hy136]; with_reducible exact H2_) | (have H2_ := (Option.bind_some _ _).symm.trans H; with_reducible exact H2_) | with_reducible exact H | (rw [hy136]; exact H) | exact H
   have Ny136 := Aside0.mk hy136
   clear hy136
   simp only [Option.some.injEq, Prod.mk.injEq] at H
   obtain ⟨rfl, rfl⟩ := H
   go_enter Try.func37, Try.ntmps37
   go_wp2_with (first | ((with_reducible refine gate_dst (N := 16) rfl ?_); refine Kd.R_lit (Kd.int .u8) _ 5 ?hg (N := 16) ?hd (xs := ([(wrap64 (Int.tdiv a0 256)) % 256, (Int.tmod a0 256) % 256] : List Int)) (inner := [.int .u8 ((wrap64 (Int.tdiv a0 256)) % 256), .int .u8 ((Int.tmod a0 256) % 256)]) (ok := fun _ => True) (okp := fun _ => True) ?hr ?hp (fun _ hk => hk) trivial (Below.refl _ _) (Nat.le_refl _) (by simp) ?_; (case hd => rfl); (case hg => rfl); (case hr => first | (go_simp; done) | (go_simp; rfl)); (case hp => exact (Reps.one (show Kd.M (Kd.int .u8) _ _ _ ((wrap64 (Int.tdiv a0 256)) % 256) [.int .u8 ((wrap64 (Int.tdiv a0 256)) % 256)] from rfl) (Reps.one (show Kd.M (Kd.int .u8) _ _ _ ((Int.tmod a0 256) % 256) [.int .u8 ((Int.tmod a0 256) % 256)] from rfl) (Reps.none _ _)))); intro v137 w4 ho5 hb hg_ hnew_; clear hg_ hnew_; (first | rw [← Ny136.out] at ho5 | (simp only [Int.reduceToNat] at ho5; rw [← Ny136.out] at ho5)); have n0_ := Aside0.mk (Kd.R_lower ho5 (zT (by repeat (first | (with_reducible first | exact HB.out | apply zF | apply zD | apply zE) | exact HB.out)))); have n1_ := Aside0.mk (zU (by repeat (first | (with_reducible first | exact HB.out | apply zF | apply zD | apply zE) | exact HB.out)) hb); clear HB; have HO138 := n0_; have HB := n1_; clear n0_ n1_; clear hb ho5; have hcv6 := own_string (P := Try.prog) Try.underlying57 Try.underlying5 Try.underlying9 (Kd.own_of_R HO138.out)))
   go_ret2
   exact ⟨by first | rfl | (simp [errW_none, errW_some] <;> rfl) | (simp [*, errW_none, errW_some] <;> rfl), by repeat (first | (with_reducible first | exact HB.out | apply zF | apply zD | apply zE) | exact HB.out)⟩

/-! ### ref01_Of: function 27 -/
def ref01_Of.f (a0 : Int) : Option (ByteArray) := (ref01_Put.f a0).bind fun bt139 => (some bt139.1)
set_option maxHeartbeats 8000000 in
set_option maxRecDepth 100000 in
theorem ref01_Of.calls (a0 : Int) (r : ByteArray) (w : World) (h : ref01_Of.f a0 = some r) :
 Calls Try.prog 27 #[.int .i64 a0] w fun e w' => e = .returned (.string r) ∧ Below w.heap.size w w' := by
 have HB := Aside0.mk (Below.refl w.heap.size w)
 have H : ((ref01_Put.f a0).bind fun bt139 => (some bt139.1)) = some r := h
 clear h
 replace H := Option.bind_eq_some_iff.mp H
 obtain ⟨⟨t139, t140⟩, A20, H⟩ := H
 replace H : (some t139) = some r := H
 have A2 := Aside0.mk A20
 clear A20
 obtain rfl := Option.some.inj H
 go_enter Try.func27, Try.ntmps27
 go_wp2_with (first | ((with_reducible refine gate_callee (f := 37) rfl ?_); refine goesL_ (some 7) rfl rfl Try.func37 (by kernel_rfl) rfl #[.int .i64 a0] rfl (by (try simp only [zO, zP, zQ]); first | done | rfl | (simp only [zS, zR]; rfl)) ?_; (with_reducible refine (ref01_Put.calls a0 t139 t140 _ A2.out).mono ?_); rintro e w3 ⟨rfl, hb⟩; refine ⟨_, rfl, ?_⟩; have n0_ := Aside0.mk (zU (by repeat (first | (with_reducible first | exact HB.out | apply zF | apply zD | apply zE) | exact HB.out)) hb); clear HB; have HB := n0_; clear n0_; (try clear hb); (try clear hb2); (try clear hk); (try clear hi)))
 go_ret
 exact ⟨by first | rfl | (simp [errW_none, errW_some] <;> rfl) | (simp [*, errW_none, errW_some] <;> rfl), by repeat (first | (with_reducible first | exact HB.out | apply zF | apply zD | apply zE) | exact HB.out)⟩

/-! ### ref23_among: function 43 -/
def ref23_among.f (a0 : Int) (a1 : Int) (a2 : Int) : Option (Bool) := if a0 ≥ a1 then (some (decide (a0 ≤ a2))) else (some false)
set_option maxHeartbeats 8000000 in
set_option maxRecDepth 100000 in
theorem ref23_among.calls (a0 : Int) (a1 : Int) (a2 : Int) (r : Bool) (w : World) (h : ref23_among.f a0 a1 a2 = some r) :
 Calls Try.prog 43 #[.int .i64 a0, .int .i64 a1, .int .i64 a2] w fun e w' => e = .returned (.bool r) ∧ Drawn0 w w' := by
 have H : (if a0 ≥ a1 then (some (decide (a0 ≤ a2))) else (some false)) = some r := h
 clear h
 by_cases c4 : a0 ≥ a1
 ·rw [if_pos c4] at H
  have c4b0 : decide (a1 ≤ a0) = true := zW c4
  clear c4
  obtain rfl := Option.some.inj H
  go_enter Try.func43, Try.ntmps43
  go_wp2
  go_ret
  exact ⟨by first | rfl | (simp; done) | (simp [*]; done), by repeat (first | exact Drawn0.refl _ | apply Drawn0.step)⟩
 ·rw [if_neg c4] at H
  have c4b0 : decide (a1 ≤ a0) = false := decide_eq_false c4
  clear c4
  obtain rfl := Option.some.inj H
  go_enter Try.func43, Try.ntmps43
  go_wp2
  go_ret
  exact ⟨by first | rfl | (simp; done) | (simp [*]; done), by repeat (first | exact Drawn0.refl _ | apply Drawn0.step)⟩

/-! ### ref23_Right: function 31 -/
def ref23_Right.f (a0_0 : Int) (a0_1 : Int) (a0_2 : Int) (a0_3 : Int) (a0_4 : Int) (a0_5 : Int) (a0_6 : Int) (a0_7 : Int) (a0_8 : Int) : Option (Bool) := (ref23_among.f a0_0 0 1099511627776).bind fun t142 => (if t142 = true then ((ref23_among.f a0_1 0 1099511627776).bind fun t143 => (if t143 = true then ((ref23_among.f a0_2 1 4).bind fun t144 => (if t144 = true then ((ref23_among.f a0_3 (-1) 15).bind fun t145 => (if t145 = true then ((ref23_among.f a0_4 0 255).bind fun t146 => (if t146 = true then ((ref23_among.f a0_5 0 255).bind fun t147 => (if t147 = true then ((ref23_among.f a0_6 0 255).bind fun t148 => (if t148 = true then ((ref23_among.f a0_7 (-1) 63).bind fun t149 => (if t149 = true then ((ref23_among.f a0_8 0 65535).bind fun t150 => (some t150)) else (some false))) else (some false))) else (some false))) else (some false))) else (some false))) else (some false))) else (some false))) else (some false))
set_option maxHeartbeats 8000000 in
set_option maxRecDepth 100000 in
theorem ref23_Right.calls (a0_0 : Int) (a0_1 : Int) (a0_2 : Int) (a0_3 : Int) (a0_4 : Int) (a0_5 : Int) (a0_6 : Int) (a0_7 : Int) (a0_8 : Int) (r : Bool) (w : World) (h : ref23_Right.f a0_0 a0_1 a0_2 a0_3 a0_4 a0_5 a0_6 a0_7 a0_8 = some r) :
 Calls Try.prog 31 #[.agg #[.int .i64 a0_0, .int .i64 a0_1, .int .i64 a0_2, .int .i64 a0_3, .int .i64 a0_4, .int .i64 a0_5, .int .i64 a0_6, .int .i64 a0_7, .int .i64 a0_8]] w fun e w' => e = .returned (.bool r) ∧ Below w.heap.size w w' := by
 have hu48 := Try.underlying48
 have HB := Aside0.mk (Below.refl w.heap.size w)
 have H : ((ref23_among.f a0_0 0 1099511627776).bind fun t142 => (if t142 = true then ((ref23_among.f a0_1 0 1099511627776).bind fun t143 => (if t143 = true then ((ref23_among.f a0_2 1 4).bind fun t144 => (if t144 = true then ((ref23_among.f a0_3 (-1) 15).bind fun t145 => (if t145 = true then ((ref23_among.f a0_4 0 255).bind fun t146 => (if t146 = true then ((ref23_among.f a0_5 0 255).bind fun t147 => (if t147 = true then ((ref23_among.f a0_6 0 255).bind fun t148 => (if t148 = true then ((ref23_among.f a0_7 (-1) 63).bind fun t149 => (if t149 = true then ((ref23_among.f a0_8 0 65535).bind fun t150 => (some t150)) else (some false))) else (some false))) else (some false))) else (some false))) else (some false))) else (some false))) else (some false))) else (some false))) = some r := h
 clear h
 replace H := Option.bind_eq_some_iff.mp H
 obtain ⟨t142, A20, H⟩ := H
 replace H : (if t142 = true then ((ref23_among.f a0_1 0 1099511627776).bind fun t143 => (if t143 = true then ((ref23_among.f a0_2 1 4).bind fun t144 => (if t144 = true then ((ref23_among.f a0_3 (-1) 15).bind fun t145 => (if t145 = true then ((ref23_among.f a0_4 0 255).bind fun t146 => (if t146 = true then ((ref23_among.f a0_5 0 255).bind fun t147 => (if t147 = true then ((ref23_among.f a0_6 0 255).bind fun t148 => (if t148 = true then ((ref23_among.f a0_7 (-1) 63).bind fun t149 => (if t149 = true then ((ref23_among.f a0_8 0 65535).bind fun t150 => (some t150)) else (some false))) else (some false))) else (some false))) else (some false))) else (some false))) else (some false))) else (some false))) else (some false)) = some r := H
 have A2 := Aside0.mk A20
 clear A20
 by_cases c3 : t142 = true
 ·subst c3
  have H1 : ((ref23_among.f a0_1 0 1099511627776).bind fun t143 => (if t143 = true then ((ref23_among.f a0_2 1 4).bind fun t144 => (if t144 = true then ((ref23_among.f a0_3 (-1) 15).bind fun t145 => (if t145 = true then ((ref23_among.f a0_4 0 255).bind fun t146 => (if t146 = true then ((ref23_among.f a0_5 0 255).bind fun t147 => (if t147 = true then ((ref23_among.f a0_6 0 255).bind fun t148 => (if t148 = true then ((ref23_among.f a0_7 (-1) 63).bind fun t149 => (if t149 = true then ((ref23_among.f a0_8 0 65535).bind fun t150 => (some t150)) else (some false))) else (some false))) else (some false))) else (some false))) else (some false))) else (some false))) else (some false))) = some r := by rw [if_pos rfl] at H; exact H
  clear H
  have H := H1
  clear H1
  replace H := Option.bind_eq_some_iff.mp H
  obtain ⟨t143, A40, H⟩ := H
  replace H : (if t143 = true then ((ref23_among.f a0_2 1 4).bind fun t144 => (if t144 = true then ((ref23_among.f a0_3 (-1) 15).bind fun t145 => (if t145 = true then ((ref23_among.f a0_4 0 255).bind fun t146 => (if t146 = true then ((ref23_among.f a0_5 0 255).bind fun t147 => (if t147 = true then ((ref23_among.f a0_6 0 255).bind fun t148 => (if t148 = true then ((ref23_among.f a0_7 (-1) 63).bind fun t149 => (if t149 = true then ((ref23_among.f a0_8 0 65535).bind fun t150 => (some t150)) else (some false))) else (some false))) else (some false))) else (some false))) else (some false))) else (some false))) else (some false)) = some r := H
  have A4 := Aside0.mk A40
  clear A40
  by_cases c5 : t143 = true
  ·subst c5
   have H1 : ((ref23_among.f a0_2 1 4).bind fun t144 => (if t144 = true then ((ref23_among.f a0_3 (-1) 15).bind fun t145 => (if t145 = true then ((ref23_among.f a0_4 0 255).bind fun t146 => (if t146 = true then ((ref23_among.f a0_5 0 255).bind fun t147 => (if t147 = true then ((ref23_among.f a0_6 0 255).bind fun t148 => (if t148 = true then ((ref23_among.f a0_7 (-1) 63).bind fun t149 => (if t149 = true then ((ref23_among.f a0_8 0 65535).bind fun t150 => (some t150)) else (some false))) else (some false))) else (some false))) else (some false))) else (some false))) else (some false))) = some r := by rw [if_pos rfl] at H; exact H
   clear H
   have H := H1
   clear H1
   replace H := Option.bind_eq_some_iff.mp H
   obtain ⟨t144, A60, H⟩ := H
   replace H : (if t144 = true then ((ref23_among.f a0_3 (-1) 15).bind fun t145 => (if t145 = true then ((ref23_among.f a0_4 0 255).bind fun t146 => (if t146 = true then ((ref23_among.f a0_5 0 255).bind fun t147 => (if t147 = true then ((ref23_among.f a0_6 0 255).bind fun t148 => (if t148 = true then ((ref23_among.f a0_7 (-1) 63).bind fun t149 => (if t149 = true then ((ref23_among.f a0_8 0 65535).bind fun t150 => (some t150)) else (some false))) else (some false))) else (some false))) else (some false))) else (some false))) else (some false)) = some r := H
   have A6 := Aside0.mk A60
   clear A60
   by_cases c7 : t144 = true
   ·subst c7
    have H1 : ((ref23_among.f a0_3 (-1) 15).bind fun t145 => (if t145 = true then ((ref23_among.f a0_4 0 255).bind fun t146 => (if t146 = true then ((ref23_among.f a0_5 0 255).bind fun t147 => (if t147 = true then ((ref23_among.f a0_6 0 255).bind fun t148 => (if t148 = true then ((ref23_among.f a0_7 (-1) 63).bind fun t149 => (if t149 = true then ((ref23_among.f a0_8 0 65535).bind fun t150 => (some t150)) else (some false))) else (some false))) else (some false))) else (some false))) else (some false))) = some r := by rw [if_pos rfl] at H; exact H
    clear H
    have H := H1
    clear H1
    replace H := Option.bind_eq_some_iff.mp H
    obtain ⟨t145, A80, H⟩ := H
    replace H : (if t145 = true then ((ref23_among.f a0_4 0 255).bind fun t146 => (if t146 = true then ((ref23_among.f a0_5 0 255).bind fun t147 => (if t147 = true then ((ref23_among.f a0_6 0 255).bind fun t148 => (if t148 = true then ((ref23_among.f a0_7 (-1) 63).bind fun t149 => (if t149 = true then ((ref23_among.f a0_8 0 65535).bind fun t150 => (some t150)) else (some false))) else (some false))) else (some false))) else (some false))) else (some false)) = some r := H
    have A8 := Aside0.mk A80
    clear A80
    by_cases c9 : t145 = true
    ·subst c9
     have H1 : ((ref23_among.f a0_4 0 255).bind fun t146 => (if t146 = true then ((ref23_among.f a0_5 0 255).bind fun t147 => (if t147 = true then ((ref23_among.f a0_6 0 255).bind fun t148 => (if t148 = true then ((ref23_among.f a0_7 (-1) 63).bind fun t149 => (if t149 = true then ((ref23_among.f a0_8 0 65535).bind fun t150 => (some t150)) else (some false))) else (some false))) else (some false))) else (some false))) = some r := by rw [if_pos rfl] at H; exact H
     clear H
     have H := H1
     clear H1
     replace H := Option.bind_eq_some_iff.mp H
     obtain ⟨t146, A100, H⟩ := H
     replace H : (if t146 = true then ((ref23_among.f a0_5 0 255).bind fun t147 => (if t147 = true then ((ref23_among.f a0_6 0 255).bind fun t148 => (if t148 = true then ((ref23_among.f a0_7 (-1) 63).bind fun t149 => (if t149 = true then ((ref23_among.f a0_8 0 65535).bind fun t150 => (some t150)) else (some false))) else (some false))) else (some false))) else (some false)) = some r := H
     have A10 := Aside0.mk A100
     clear A100
     by_cases c11 : t146 = true
     ·subst c11
      have H1 : ((ref23_among.f a0_5 0 255).bind fun t147 => (if t147 = true then ((ref23_among.f a0_6 0 255).bind fun t148 => (if t148 = true then ((ref23_among.f a0_7 (-1) 63).bind fun t149 => (if t149 = true then ((ref23_among.f a0_8 0 65535).bind fun t150 => (some t150)) else (some false))) else (some false))) else (some false))) = some r := by rw [if_pos rfl] at H; exact H
      clear H
      have H := H1
      clear H1
      replace H := Option.bind_eq_some_iff.mp H
      obtain ⟨t147, A120, H⟩ := H
      replace H : (if t147 = true then ((ref23_among.f a0_6 0 255).bind fun t148 => (if t148 = true then ((ref23_among.f a0_7 (-1) 63).bind fun t149 => (if t149 = true then ((ref23_among.f a0_8 0 65535).bind fun t150 => (some t150)) else (some false))) else (some false))) else (some false)) = some r := H
      have A12 := Aside0.mk A120
      clear A120
      by_cases c13 : t147 = true
      ·subst c13
       have H1 : ((ref23_among.f a0_6 0 255).bind fun t148 => (if t148 = true then ((ref23_among.f a0_7 (-1) 63).bind fun t149 => (if t149 = true then ((ref23_among.f a0_8 0 65535).bind fun t150 => (some t150)) else (some false))) else (some false))) = some r := by rw [if_pos rfl] at H; exact H
       clear H
       have H := H1
       clear H1
       replace H := Option.bind_eq_some_iff.mp H
       obtain ⟨t148, A140, H⟩ := H
       replace H : (if t148 = true then ((ref23_among.f a0_7 (-1) 63).bind fun t149 => (if t149 = true then ((ref23_among.f a0_8 0 65535).bind fun t150 => (some t150)) else (some false))) else (some false)) = some r := H
       have A14 := Aside0.mk A140
       clear A140
       by_cases c15 : t148 = true
       ·subst c15
        have H1 : ((ref23_among.f a0_7 (-1) 63).bind fun t149 => (if t149 = true then ((ref23_among.f a0_8 0 65535).bind fun t150 => (some t150)) else (some false))) = some r := by rw [if_pos rfl] at H; exact H
        clear H
        have H := H1
        clear H1
        replace H := Option.bind_eq_some_iff.mp H
        obtain ⟨t149, A160, H⟩ := H
        replace H : (if t149 = true then ((ref23_among.f a0_8 0 65535).bind fun t150 => (some t150)) else (some false)) = some r := H
        have A16 := Aside0.mk A160
        clear A160
        by_cases c17 : t149 = true
        ·subst c17
         have H1 : ((ref23_among.f a0_8 0 65535).bind fun t150 => (some t150)) = some r := by rw [if_pos rfl] at H; exact H
         clear H
         have H := H1
         clear H1
         replace H := Option.bind_eq_some_iff.mp H
         obtain ⟨t150, A180, H⟩ := H
         replace H : (some t150) = some r := H
         have A18 := Aside0.mk A180
         clear A180
         obtain rfl := Option.some.inj H
         go_enter Try.func31, Try.ntmps31
         go_wp2_with (first | ((with_reducible refine gate_dst (N := 1) rfl ?_); refine box_event ?hg (N := 1) ?hd (cs := #[.int .i64 a0_0, .int .i64 a0_1, .int .i64 a0_2, .int .i64 a0_3, .int .i64 a0_4, .int .i64 a0_5, .int .i64 a0_6, .int .i64 a0_7, .int .i64 a0_8]) (t := 48) ?hr ?_; (case hd => rfl); (case hg => rfl); (case hr => first | (go_simp; done) | (go_simp; rfl)); intro gb141 hg w19 hbox hb; have n0_ := Aside0.mk (zU (by repeat (first | (with_reducible first | exact HB.out | apply zF | apply zD | apply zE) | exact HB.out)) hb); have n1_ := Aside0.mk (hbox); have n2_ := Aside0.mk ((by rw [hg]; exact (zT (by repeat (first | (with_reducible first | exact HB.out | apply zF | apply zD | apply zE) | exact HB.out))) : w.heap.size ≤ gb141)); have n3_ := Aside0.mk ((by rw [hg]; exact (zT (by repeat (first | (with_reducible first | exact HB.out | apply zF | apply zD | apply zE) | exact HB.out))) : w.heap.size ≤ gb141)); clear HB; have HB := n0_; have BK141 := n1_; have GW141 := n2_; have GE141 := n3_; clear n0_ n1_ n2_ n3_; clear hb hbox hg; have hcz20_0 : w19.cell? ⟨gb141, 0, none⟩ = some (.int .i64 a0_0) := (zK BK141.out 0).trans rfl; have hcz20_1 : w19.cell? ⟨gb141, 1, none⟩ = some (.int .i64 a0_1) := (zK BK141.out 1).trans rfl; have hcz20_2 : w19.cell? ⟨gb141, 2, none⟩ = some (.int .i64 a0_2) := (zK BK141.out 2).trans rfl; have hcz20_3 : w19.cell? ⟨gb141, 3, none⟩ = some (.int .i64 a0_3) := (zK BK141.out 3).trans rfl; have hcz20_4 : w19.cell? ⟨gb141, 4, none⟩ = some (.int .i64 a0_4) := (zK BK141.out 4).trans rfl; have hcz20_5 : w19.cell? ⟨gb141, 5, none⟩ = some (.int .i64 a0_5) := (zK BK141.out 5).trans rfl; have hcz20_6 : w19.cell? ⟨gb141, 6, none⟩ = some (.int .i64 a0_6) := (zK BK141.out 6).trans rfl; have hcz20_7 : w19.cell? ⟨gb141, 7, none⟩ = some (.int .i64 a0_7) := (zK BK141.out 7).trans rfl; have hcz20_8 : w19.cell? ⟨gb141, 8, none⟩ = some (.int .i64 a0_8) := (zK BK141.out 8).trans rfl; have hfz20_0 := zL BK141.out 0; have hfz20_1 := zL BK141.out 1; have hfz20_2 := zL BK141.out 2; have hfz20_3 := zL BK141.out 3; have hfz20_4 := zL BK141.out 4; have hfz20_5 := zL BK141.out 5; have hfz20_6 := zL BK141.out 6; have hfz20_7 := zL BK141.out 7; have hfz20_8 := zL BK141.out 8) | ((with_reducible refine gate_callee (f := 43) rfl ?_); refine goesL_ (some 5) rfl rfl Try.func43 (by kernel_rfl) rfl #[.int .i64 a0_0, .int .i64 0, .int .i64 1099511627776] rfl (by (try simp only [zO, zP, zQ]); first | done | rfl | (simp only [zS, zR]; rfl)) ?_; (with_reducible refine (ref23_among.calls a0_0 0 1099511627776 true _ A2.out).mono ?_); rintro e w' ⟨rfl, ⟨nd, rfl⟩⟩; refine ⟨_, rfl, ?_⟩) | (go_at_call 43; (with_reducible refine (ref23_among.calls a0_1 0 1099511627776 true _ A4.out).mono ?_); rintro e w' ⟨rfl, ⟨nd, rfl⟩⟩) | (go_at_call 43; (with_reducible refine (ref23_among.calls a0_2 1 4 true _ A6.out).mono ?_); rintro e w' ⟨rfl, ⟨nd, rfl⟩⟩) | (go_at_call 43; (with_reducible refine (ref23_among.calls a0_3 (-1) 15 true _ A8.out).mono ?_); rintro e w' ⟨rfl, ⟨nd, rfl⟩⟩) | (go_at_call 43; (with_reducible refine (ref23_among.calls a0_4 0 255 true _ A10.out).mono ?_); rintro e w' ⟨rfl, ⟨nd, rfl⟩⟩) | (go_at_call 43; (with_reducible refine (ref23_among.calls a0_5 0 255 true _ A12.out).mono ?_); rintro e w' ⟨rfl, ⟨nd, rfl⟩⟩) | (go_at_call 43; (with_reducible refine (ref23_among.calls a0_6 0 255 true _ A14.out).mono ?_); rintro e w' ⟨rfl, ⟨nd, rfl⟩⟩) | (go_at_call 43; (with_reducible refine (ref23_among.calls a0_7 (-1) 63 true _ A16.out).mono ?_); rintro e w' ⟨rfl, ⟨nd, rfl⟩⟩) | (go_at_call 43; (with_reducible refine (ref23_among.calls a0_8 0 65535 t150 _ A18.out).mono ?_); rintro e w' ⟨rfl, ⟨nd, rfl⟩⟩))
         go_ret
         exact ⟨by first | rfl | (simp [errW_none, errW_some] <;> rfl) | (simp [*, errW_none, errW_some] <;> rfl), by repeat (first | (with_reducible first | exact HB.out | apply zF | apply zD | apply zE | refine zJ ?_ GE141.out) | exact HB.out)⟩
        ·replace c17 := Bool.eq_false_iff.mpr c17
         subst c17
         have H1 : (some false) = some r := by rw [if_neg (show ¬ (false = true) by decide)] at H; exact H
         clear H
         have H := H1
         clear H1
         obtain rfl := Option.some.inj H
         go_enter Try.func31, Try.ntmps31
         go_wp2_with (first | ((with_reducible refine gate_dst (N := 1) rfl ?_); refine box_event ?hg (N := 1) ?hd (cs := #[.int .i64 a0_0, .int .i64 a0_1, .int .i64 a0_2, .int .i64 a0_3, .int .i64 a0_4, .int .i64 a0_5, .int .i64 a0_6, .int .i64 a0_7, .int .i64 a0_8]) (t := 48) ?hr ?_; (case hd => rfl); (case hg => rfl); (case hr => first | (go_simp; done) | (go_simp; rfl)); intro gb141 hg w21 hbox hb; have n0_ := Aside0.mk (zU (by repeat (first | (with_reducible first | exact HB.out | apply zF | apply zD | apply zE) | exact HB.out)) hb); have n1_ := Aside0.mk (hbox); have n2_ := Aside0.mk ((by rw [hg]; exact (zT (by repeat (first | (with_reducible first | exact HB.out | apply zF | apply zD | apply zE) | exact HB.out))) : w.heap.size ≤ gb141)); have n3_ := Aside0.mk ((by rw [hg]; exact (zT (by repeat (first | (with_reducible first | exact HB.out | apply zF | apply zD | apply zE) | exact HB.out))) : w.heap.size ≤ gb141)); clear HB; have HB := n0_; have BK141 := n1_; have GW141 := n2_; have GE141 := n3_; clear n0_ n1_ n2_ n3_; clear hb hbox hg; have hcz22_0 : w21.cell? ⟨gb141, 0, none⟩ = some (.int .i64 a0_0) := (zK BK141.out 0).trans rfl; have hcz22_1 : w21.cell? ⟨gb141, 1, none⟩ = some (.int .i64 a0_1) := (zK BK141.out 1).trans rfl; have hcz22_2 : w21.cell? ⟨gb141, 2, none⟩ = some (.int .i64 a0_2) := (zK BK141.out 2).trans rfl; have hcz22_3 : w21.cell? ⟨gb141, 3, none⟩ = some (.int .i64 a0_3) := (zK BK141.out 3).trans rfl; have hcz22_4 : w21.cell? ⟨gb141, 4, none⟩ = some (.int .i64 a0_4) := (zK BK141.out 4).trans rfl; have hcz22_5 : w21.cell? ⟨gb141, 5, none⟩ = some (.int .i64 a0_5) := (zK BK141.out 5).trans rfl; have hcz22_6 : w21.cell? ⟨gb141, 6, none⟩ = some (.int .i64 a0_6) := (zK BK141.out 6).trans rfl; have hcz22_7 : w21.cell? ⟨gb141, 7, none⟩ = some (.int .i64 a0_7) := (zK BK141.out 7).trans rfl; have hcz22_8 : w21.cell? ⟨gb141, 8, none⟩ = some (.int .i64 a0_8) := (zK BK141.out 8).trans rfl; have hfz22_0 := zL BK141.out 0; have hfz22_1 := zL BK141.out 1; have hfz22_2 := zL BK141.out 2; have hfz22_3 := zL BK141.out 3; have hfz22_4 := zL BK141.out 4; have hfz22_5 := zL BK141.out 5; have hfz22_6 := zL BK141.out 6; have hfz22_7 := zL BK141.out 7; have hfz22_8 := zL BK141.out 8) | ((with_reducible refine gate_callee (f := 43) rfl ?_); refine goesL_ (some 5) rfl rfl Try.func43 (by kernel_rfl) rfl #[.int .i64 a0_0, .int .i64 0, .int .i64 1099511627776] rfl (by (try simp only [zO, zP, zQ]); first | done | rfl | (simp only [zS, zR]; rfl)) ?_; (with_reducible refine (ref23_among.calls a0_0 0 1099511627776 true _ A2.out).mono ?_); rintro e w' ⟨rfl, ⟨nd, rfl⟩⟩; refine ⟨_, rfl, ?_⟩) | (go_at_call 43; (with_reducible refine (ref23_among.calls a0_1 0 1099511627776 true _ A4.out).mono ?_); rintro e w' ⟨rfl, ⟨nd, rfl⟩⟩) | (go_at_call 43; (with_reducible refine (ref23_among.calls a0_2 1 4 true _ A6.out).mono ?_); rintro e w' ⟨rfl, ⟨nd, rfl⟩⟩) | (go_at_call 43; (with_reducible refine (ref23_among.calls a0_3 (-1) 15 true _ A8.out).mono ?_); rintro e w' ⟨rfl, ⟨nd, rfl⟩⟩) | (go_at_call 43; (with_reducible refine (ref23_among.calls a0_4 0 255 true _ A10.out).mono ?_); rintro e w' ⟨rfl, ⟨nd, rfl⟩⟩) | (go_at_call 43; (with_reducible refine (ref23_among.calls a0_5 0 255 true _ A12.out).mono ?_); rintro e w' ⟨rfl, ⟨nd, rfl⟩⟩) | (go_at_call 43; (with_reducible refine (ref23_among.calls a0_6 0 255 true _ A14.out).mono ?_); rintro e w' ⟨rfl, ⟨nd, rfl⟩⟩) | (go_at_call 43; (with_reducible refine (ref23_among.calls a0_7 (-1) 63 false _ A16.out).mono ?_); rintro e w' ⟨rfl, ⟨nd, rfl⟩⟩))
         go_ret
         exact ⟨by first | rfl | (simp [errW_none, errW_some] <;> rfl) | (simp [*, errW_none, errW_some] <;> rfl), by repeat (first | (with_reducible first | exact HB.out | apply zF | apply zD | apply zE | refine zJ ?_ GE141.out) | exact HB.out)⟩
       ·replace c15 := Bool.eq_false_iff.mpr c15
        subst c15
        have H1 : (some false) = some r := by rw [if_neg (show ¬ (false = true) by decide)] at H; exact H
        clear H
        have H := H1
        clear H1
        obtain rfl := Option.some.inj H
        go_enter Try.func31, Try.ntmps31
        go_wp2_with (first | ((with_reducible refine gate_dst (N := 1) rfl ?_); refine box_event ?hg (N := 1) ?hd (cs := #[.int .i64 a0_0, .int .i64 a0_1, .int .i64 a0_2, .int .i64 a0_3, .int .i64 a0_4, .int .i64 a0_5, .int .i64 a0_6, .int .i64 a0_7, .int .i64 a0_8]) (t := 48) ?hr ?_; (case hd => rfl); (case hg => rfl); (case hr => first | (go_simp; done) | (go_simp; rfl)); intro gb141 hg w23 hbox hb; have n0_ := Aside0.mk (zU (by repeat (first | (with_reducible first | exact HB.out | apply zF | apply zD | apply zE) | exact HB.out)) hb); have n1_ := Aside0.mk (hbox); have n2_ := Aside0.mk ((by rw [hg]; exact (zT (by repeat (first | (with_reducible first | exact HB.out | apply zF | apply zD | apply zE) | exact HB.out))) : w.heap.size ≤ gb141)); have n3_ := Aside0.mk ((by rw [hg]; exact (zT (by repeat (first | (with_reducible first | exact HB.out | apply zF | apply zD | apply zE) | exact HB.out))) : w.heap.size ≤ gb141)); clear HB; have HB := n0_; have BK141 := n1_; have GW141 := n2_; have GE141 := n3_; clear n0_ n1_ n2_ n3_; clear hb hbox hg; have hcz24_0 : w23.cell? ⟨gb141, 0, none⟩ = some (.int .i64 a0_0) := (zK BK141.out 0).trans rfl; have hcz24_1 : w23.cell? ⟨gb141, 1, none⟩ = some (.int .i64 a0_1) := (zK BK141.out 1).trans rfl; have hcz24_2 : w23.cell? ⟨gb141, 2, none⟩ = some (.int .i64 a0_2) := (zK BK141.out 2).trans rfl; have hcz24_3 : w23.cell? ⟨gb141, 3, none⟩ = some (.int .i64 a0_3) := (zK BK141.out 3).trans rfl; have hcz24_4 : w23.cell? ⟨gb141, 4, none⟩ = some (.int .i64 a0_4) := (zK BK141.out 4).trans rfl; have hcz24_5 : w23.cell? ⟨gb141, 5, none⟩ = some (.int .i64 a0_5) := (zK BK141.out 5).trans rfl; have hcz24_6 : w23.cell? ⟨gb141, 6, none⟩ = some (.int .i64 a0_6) := (zK BK141.out 6).trans rfl; have hcz24_7 : w23.cell? ⟨gb141, 7, none⟩ = some (.int .i64 a0_7) := (zK BK141.out 7).trans rfl; have hcz24_8 : w23.cell? ⟨gb141, 8, none⟩ = some (.int .i64 a0_8) := (zK BK141.out 8).trans rfl; have hfz24_0 := zL BK141.out 0; have hfz24_1 := zL BK141.out 1; have hfz24_2 := zL BK141.out 2; have hfz24_3 := zL BK141.out 3; have hfz24_4 := zL BK141.out 4; have hfz24_5 := zL BK141.out 5; have hfz24_6 := zL BK141.out 6; have hfz24_7 := zL BK141.out 7; have hfz24_8 := zL BK141.out 8) | ((with_reducible refine gate_callee (f := 43) rfl ?_); refine goesL_ (some 5) rfl rfl Try.func43 (by kernel_rfl) rfl #[.int .i64 a0_0, .int .i64 0, .int .i64 1099511627776] rfl (by (try simp only [zO, zP, zQ]); first | done | rfl | (simp only [zS, zR]; rfl)) ?_; (with_reducible refine (ref23_among.calls a0_0 0 1099511627776 true _ A2.out).mono ?_); rintro e w' ⟨rfl, ⟨nd, rfl⟩⟩; refine ⟨_, rfl, ?_⟩) | (go_at_call 43; (with_reducible refine (ref23_among.calls a0_1 0 1099511627776 true _ A4.out).mono ?_); rintro e w' ⟨rfl, ⟨nd, rfl⟩⟩) | (go_at_call 43; (with_reducible refine (ref23_among.calls a0_2 1 4 true _ A6.out).mono ?_); rintro e w' ⟨rfl, ⟨nd, rfl⟩⟩) | (go_at_call 43; (with_reducible refine (ref23_among.calls a0_3 (-1) 15 true _ A8.out).mono ?_); rintro e w' ⟨rfl, ⟨nd, rfl⟩⟩) | (go_at_call 43; (with_reducible refine (ref23_among.calls a0_4 0 255 true _ A10.out).mono ?_); rintro e w' ⟨rfl, ⟨nd, rfl⟩⟩) | (go_at_call 43; (with_reducible refine (ref23_among.calls a0_5 0 255 true _ A12.out).mono ?_); rintro e w' ⟨rfl, ⟨nd, rfl⟩⟩) | (go_at_call 43; (with_reducible refine (ref23_among.calls a0_6 0 255 false _ A14.out).mono ?_); rintro e w' ⟨rfl, ⟨nd, rfl⟩⟩))
        go_ret
        exact ⟨by first | rfl | (simp [errW_none, errW_some] <;> rfl) | (simp [*, errW_none, errW_some] <;> rfl), by repeat (first | (with_reducible first | exact HB.out | apply zF | apply zD | apply zE | refine zJ ?_ GE141.out) | exact HB.out)⟩
      ·replace c13 := Bool.eq_false_iff.mpr c13
       subst c13
       have H1 : (some false) = some r := by rw [if_neg (show ¬ (false = true) by decide)] at H; exact H
       clear H
       have H := H1
       clear H1
       obtain rfl := Option.some.inj H
       go_enter Try.func31, Try.ntmps31
       go_wp2_with (first | ((with_reducible refine gate_dst (N := 1) rfl ?_); refine box_event ?hg (N := 1) ?hd (cs := #[.int .i64 a0_0, .int .i64 a0_1, .int .i64 a0_2, .int .i64 a0_3, .int .i64 a0_4, .int .i64 a0_5, .int .i64 a0_6, .int .i64 a0_7, .int .i64 a0_8]) (t := 48) ?hr ?_; (case hd => rfl); (case hg => rfl); (case hr => first | (go_simp; done) | (go_simp; rfl)); intro gb141 hg w25 hbox hb; have n0_ := Aside0.mk (zU (by repeat (first | (with_reducible first | exact HB.out | apply zF | apply zD | apply zE) | exact HB.out)) hb); have n1_ := Aside0.mk (hbox); have n2_ := Aside0.mk ((by rw [hg]; exact (zT (by repeat (first | (with_reducible first | exact HB.out | apply zF | apply zD | apply zE) | exact HB.out))) : w.heap.size ≤ gb141)); have n3_ := Aside0.mk ((by rw [hg]; exact (zT (by repeat (first | (with_reducible first | exact HB.out | apply zF | apply zD | apply zE) | exact HB.out))) : w.heap.size ≤ gb141)); clear HB; have HB := n0_; have BK141 := n1_; have GW141 := n2_; have GE141 := n3_; clear n0_ n1_ n2_ n3_; clear hb hbox hg; have hcz26_0 : w25.cell? ⟨gb141, 0, none⟩ = some (.int .i64 a0_0) := (zK BK141.out 0).trans rfl; have hcz26_1 : w25.cell? ⟨gb141, 1, none⟩ = some (.int .i64 a0_1) := (zK BK141.out 1).trans rfl; have hcz26_2 : w25.cell? ⟨gb141, 2, none⟩ = some (.int .i64 a0_2) := (zK BK141.out 2).trans rfl; have hcz26_3 : w25.cell? ⟨gb141, 3, none⟩ = some (.int .i64 a0_3) := (zK BK141.out 3).trans rfl; have hcz26_4 : w25.cell? ⟨gb141, 4, none⟩ = some (.int .i64 a0_4) := (zK BK141.out 4).trans rfl; have hcz26_5 : w25.cell? ⟨gb141, 5, none⟩ = some (.int .i64 a0_5) := (zK BK141.out 5).trans rfl; have hcz26_6 : w25.cell? ⟨gb141, 6, none⟩ = some (.int .i64 a0_6) := (zK BK141.out 6).trans rfl; have hcz26_7 : w25.cell? ⟨gb141, 7, none⟩ = some (.int .i64 a0_7) := (zK BK141.out 7).trans rfl; have hcz26_8 : w25.cell? ⟨gb141, 8, none⟩ = some (.int .i64 a0_8) := (zK BK141.out 8).trans rfl; have hfz26_0 := zL BK141.out 0; have hfz26_1 := zL BK141.out 1; have hfz26_2 := zL BK141.out 2; have hfz26_3 := zL BK141.out 3; have hfz26_4 := zL BK141.out 4; have hfz26_5 := zL BK141.out 5; have hfz26_6 := zL BK141.out 6; have hfz26_7 := zL BK141.out 7; have hfz26_8 := zL BK141.out 8) | ((with_reducible refine gate_callee (f := 43) rfl ?_); refine goesL_ (some 5) rfl rfl Try.func43 (by kernel_rfl) rfl #[.int .i64 a0_0, .int .i64 0, .int .i64 1099511627776] rfl (by (try simp only [zO, zP, zQ]); first | done | rfl | (simp only [zS, zR]; rfl)) ?_; (with_reducible refine (ref23_among.calls a0_0 0 1099511627776 true _ A2.out).mono ?_); rintro e w' ⟨rfl, ⟨nd, rfl⟩⟩; refine ⟨_, rfl, ?_⟩) | (go_at_call 43; (with_reducible refine (ref23_among.calls a0_1 0 1099511627776 true _ A4.out).mono ?_); rintro e w' ⟨rfl, ⟨nd, rfl⟩⟩) | (go_at_call 43; (with_reducible refine (ref23_among.calls a0_2 1 4 true _ A6.out).mono ?_); rintro e w' ⟨rfl, ⟨nd, rfl⟩⟩) | (go_at_call 43; (with_reducible refine (ref23_among.calls a0_3 (-1) 15 true _ A8.out).mono ?_); rintro e w' ⟨rfl, ⟨nd, rfl⟩⟩) | (go_at_call 43; (with_reducible refine (ref23_among.calls a0_4 0 255 true _ A10.out).mono ?_); rintro e w' ⟨rfl, ⟨nd, rfl⟩⟩) | (go_at_call 43; (with_reducible refine (ref23_among.calls a0_5 0 255 false _ A12.out).mono ?_); rintro e w' ⟨rfl, ⟨nd, rfl⟩⟩))
       go_ret
       exact ⟨by first | rfl | (simp [errW_none, errW_some] <;> rfl) | (simp [*, errW_none, errW_some] <;> rfl), by repeat (first | (with_reducible first | exact HB.out | apply zF | apply zD | apply zE | refine zJ ?_ GE141.out) | exact HB.out)⟩
     ·replace c11 := Bool.eq_false_iff.mpr c11
      subst c11
      have H1 : (some false) = some r := by rw [if_neg (show ¬ (false = true) by decide)] at H; exact H
      clear H
      have H := H1
      clear H1
      obtain rfl := Option.some.inj H
      go_enter Try.func31, Try.ntmps31
      go_wp2_with (first | ((with_reducible refine gate_dst (N := 1) rfl ?_); refine box_event ?hg (N := 1) ?hd (cs := #[.int .i64 a0_0, .int .i64 a0_1, .int .i64 a0_2, .int .i64 a0_3, .int .i64 a0_4, .int .i64 a0_5, .int .i64 a0_6, .int .i64 a0_7, .int .i64 a0_8]) (t := 48) ?hr ?_; (case hd => rfl); (case hg => rfl); (case hr => first | (go_simp; done) | (go_simp; rfl)); intro gb141 hg w27 hbox hb; have n0_ := Aside0.mk (zU (by repeat (first | (with_reducible first | exact HB.out | apply zF | apply zD | apply zE) | exact HB.out)) hb); have n1_ := Aside0.mk (hbox); have n2_ := Aside0.mk ((by rw [hg]; exact (zT (by repeat (first | (with_reducible first | exact HB.out | apply zF | apply zD | apply zE) | exact HB.out))) : w.heap.size ≤ gb141)); have n3_ := Aside0.mk ((by rw [hg]; exact (zT (by repeat (first | (with_reducible first | exact HB.out | apply zF | apply zD | apply zE) | exact HB.out))) : w.heap.size ≤ gb141)); clear HB; have HB := n0_; have BK141 := n1_; have GW141 := n2_; have GE141 := n3_; clear n0_ n1_ n2_ n3_; clear hb hbox hg; have hcz28_0 : w27.cell? ⟨gb141, 0, none⟩ = some (.int .i64 a0_0) := (zK BK141.out 0).trans rfl; have hcz28_1 : w27.cell? ⟨gb141, 1, none⟩ = some (.int .i64 a0_1) := (zK BK141.out 1).trans rfl; have hcz28_2 : w27.cell? ⟨gb141, 2, none⟩ = some (.int .i64 a0_2) := (zK BK141.out 2).trans rfl; have hcz28_3 : w27.cell? ⟨gb141, 3, none⟩ = some (.int .i64 a0_3) := (zK BK141.out 3).trans rfl; have hcz28_4 : w27.cell? ⟨gb141, 4, none⟩ = some (.int .i64 a0_4) := (zK BK141.out 4).trans rfl; have hcz28_5 : w27.cell? ⟨gb141, 5, none⟩ = some (.int .i64 a0_5) := (zK BK141.out 5).trans rfl; have hcz28_6 : w27.cell? ⟨gb141, 6, none⟩ = some (.int .i64 a0_6) := (zK BK141.out 6).trans rfl; have hcz28_7 : w27.cell? ⟨gb141, 7, none⟩ = some (.int .i64 a0_7) := (zK BK141.out 7).trans rfl; have hcz28_8 : w27.cell? ⟨gb141, 8, none⟩ = some (.int .i64 a0_8) := (zK BK141.out 8).trans rfl; have hfz28_0 := zL BK141.out 0; have hfz28_1 := zL BK141.out 1; have hfz28_2 := zL BK141.out 2; have hfz28_3 := zL BK141.out 3; have hfz28_4 := zL BK141.out 4; have hfz28_5 := zL BK141.out 5; have hfz28_6 := zL BK141.out 6; have hfz28_7 := zL BK141.out 7; have hfz28_8 := zL BK141.out 8) | ((with_reducible refine gate_callee (f := 43) rfl ?_); refine goesL_ (some 5) rfl rfl Try.func43 (by kernel_rfl) rfl #[.int .i64 a0_0, .int .i64 0, .int .i64 1099511627776] rfl (by (try simp only [zO, zP, zQ]); first | done | rfl | (simp only [zS, zR]; rfl)) ?_; (with_reducible refine (ref23_among.calls a0_0 0 1099511627776 true _ A2.out).mono ?_); rintro e w' ⟨rfl, ⟨nd, rfl⟩⟩; refine ⟨_, rfl, ?_⟩) | (go_at_call 43; (with_reducible refine (ref23_among.calls a0_1 0 1099511627776 true _ A4.out).mono ?_); rintro e w' ⟨rfl, ⟨nd, rfl⟩⟩) | (go_at_call 43; (with_reducible refine (ref23_among.calls a0_2 1 4 true _ A6.out).mono ?_); rintro e w' ⟨rfl, ⟨nd, rfl⟩⟩) | (go_at_call 43; (with_reducible refine (ref23_among.calls a0_3 (-1) 15 true _ A8.out).mono ?_); rintro e w' ⟨rfl, ⟨nd, rfl⟩⟩) | (go_at_call 43; (with_reducible refine (ref23_among.calls a0_4 0 255 false _ A10.out).mono ?_); rintro e w' ⟨rfl, ⟨nd, rfl⟩⟩))
      go_ret
      exact ⟨by first | rfl | (simp [errW_none, errW_some] <;> rfl) | (simp [*, errW_none, errW_some] <;> rfl), by repeat (first | (with_reducible first | exact HB.out | apply zF | apply zD | apply zE | refine zJ ?_ GE141.out) | exact HB.out)⟩
    ·replace c9 := Bool.eq_false_iff.mpr c9
     subst c9
     have H1 : (some false) = some r := by rw [if_neg (show ¬ (false = true) by decide)] at H; exact H
     clear H
     have H := H1
     clear H1
     obtain rfl := Option.some.inj H
     go_enter Try.func31, Try.ntmps31
     go_wp2_with (first | ((with_reducible refine gate_dst (N := 1) rfl ?_); refine box_event ?hg (N := 1) ?hd (cs := #[.int .i64 a0_0, .int .i64 a0_1, .int .i64 a0_2, .int .i64 a0_3, .int .i64 a0_4, .int .i64 a0_5, .int .i64 a0_6, .int .i64 a0_7, .int .i64 a0_8]) (t := 48) ?hr ?_; (case hd => rfl); (case hg => rfl); (case hr => first | (go_simp; done) | (go_simp; rfl)); intro gb141 hg w29 hbox hb; have n0_ := Aside0.mk (zU (by repeat (first | (with_reducible first | exact HB.out | apply zF | apply zD | apply zE) | exact HB.out)) hb); have n1_ := Aside0.mk (hbox); have n2_ := Aside0.mk ((by rw [hg]; exact (zT (by repeat (first | (with_reducible first | exact HB.out | apply zF | apply zD | apply zE) | exact HB.out))) : w.heap.size ≤ gb141)); have n3_ := Aside0.mk ((by rw [hg]; exact (zT (by repeat (first | (with_reducible first | exact HB.out | apply zF | apply zD | apply zE) | exact HB.out))) : w.heap.size ≤ gb141)); clear HB; have HB := n0_; have BK141 := n1_; have GW141 := n2_; have GE141 := n3_; clear n0_ n1_ n2_ n3_; clear hb hbox hg; have hcz30_0 : w29.cell? ⟨gb141, 0, none⟩ = some (.int .i64 a0_0) := (zK BK141.out 0).trans rfl; have hcz30_1 : w29.cell? ⟨gb141, 1, none⟩ = some (.int .i64 a0_1) := (zK BK141.out 1).trans rfl; have hcz30_2 : w29.cell? ⟨gb141, 2, none⟩ = some (.int .i64 a0_2) := (zK BK141.out 2).trans rfl; have hcz30_3 : w29.cell? ⟨gb141, 3, none⟩ = some (.int .i64 a0_3) := (zK BK141.out 3).trans rfl; have hcz30_4 : w29.cell? ⟨gb141, 4, none⟩ = some (.int .i64 a0_4) := (zK BK141.out 4).trans rfl; have hcz30_5 : w29.cell? ⟨gb141, 5, none⟩ = some (.int .i64 a0_5) := (zK BK141.out 5).trans rfl; have hcz30_6 : w29.cell? ⟨gb141, 6, none⟩ = some (.int .i64 a0_6) := (zK BK141.out 6).trans rfl; have hcz30_7 : w29.cell? ⟨gb141, 7, none⟩ = some (.int .i64 a0_7) := (zK BK141.out 7).trans rfl; have hcz30_8 : w29.cell? ⟨gb141, 8, none⟩ = some (.int .i64 a0_8) := (zK BK141.out 8).trans rfl; have hfz30_0 := zL BK141.out 0; have hfz30_1 := zL BK141.out 1; have hfz30_2 := zL BK141.out 2; have hfz30_3 := zL BK141.out 3; have hfz30_4 := zL BK141.out 4; have hfz30_5 := zL BK141.out 5; have hfz30_6 := zL BK141.out 6; have hfz30_7 := zL BK141.out 7; have hfz30_8 := zL BK141.out 8) | ((with_reducible refine gate_callee (f := 43) rfl ?_); refine goesL_ (some 5) rfl rfl Try.func43 (by kernel_rfl) rfl #[.int .i64 a0_0, .int .i64 0, .int .i64 1099511627776] rfl (by (try simp only [zO, zP, zQ]); first | done | rfl | (simp only [zS, zR]; rfl)) ?_; (with_reducible refine (ref23_among.calls a0_0 0 1099511627776 true _ A2.out).mono ?_); rintro e w' ⟨rfl, ⟨nd, rfl⟩⟩; refine ⟨_, rfl, ?_⟩) | (go_at_call 43; (with_reducible refine (ref23_among.calls a0_1 0 1099511627776 true _ A4.out).mono ?_); rintro e w' ⟨rfl, ⟨nd, rfl⟩⟩) | (go_at_call 43; (with_reducible refine (ref23_among.calls a0_2 1 4 true _ A6.out).mono ?_); rintro e w' ⟨rfl, ⟨nd, rfl⟩⟩) | (go_at_call 43; (with_reducible refine (ref23_among.calls a0_3 (-1) 15 false _ A8.out).mono ?_); rintro e w' ⟨rfl, ⟨nd, rfl⟩⟩))
     go_ret
     exact ⟨by first | rfl | (simp [errW_none, errW_some] <;> rfl) | (simp [*, errW_none, errW_some] <;> rfl), by repeat (first | (with_reducible first | exact HB.out | apply zF | apply zD | apply zE | refine zJ ?_ GE141.out) | exact HB.out)⟩
   ·replace c7 := Bool.eq_false_iff.mpr c7
    subst c7
    have H1 : (some false) = some r := by rw [if_neg (show ¬ (false = true) by decide)] at H; exact H
    clear H
    have H := H1
    clear H1
    obtain rfl := Option.some.inj H
    go_enter Try.func31, Try.ntmps31
    go_wp2_with (first | ((with_reducible refine gate_dst (N := 1) rfl ?_); refine box_event ?hg (N := 1) ?hd (cs := #[.int .i64 a0_0, .int .i64 a0_1, .int .i64 a0_2, .int .i64 a0_3, .int .i64 a0_4, .int .i64 a0_5, .int .i64 a0_6, .int .i64 a0_7, .int .i64 a0_8]) (t := 48) ?hr ?_; (case hd => rfl); (case hg => rfl); (case hr => first | (go_simp; done) | (go_simp; rfl)); intro gb141 hg w31 hbox hb; have n0_ := Aside0.mk (zU (by repeat (first | (with_reducible first | exact HB.out | apply zF | apply zD | apply zE) | exact HB.out)) hb); have n1_ := Aside0.mk (hbox); have n2_ := Aside0.mk ((by rw [hg]; exact (zT (by repeat (first | (with_reducible first | exact HB.out | apply zF | apply zD | apply zE) | exact HB.out))) : w.heap.size ≤ gb141)); have n3_ := Aside0.mk ((by rw [hg]; exact (zT (by repeat (first | (with_reducible first | exact HB.out | apply zF | apply zD | apply zE) | exact HB.out))) : w.heap.size ≤ gb141)); clear HB; have HB := n0_; have BK141 := n1_; have GW141 := n2_; have GE141 := n3_; clear n0_ n1_ n2_ n3_; clear hb hbox hg; have hcz32_0 : w31.cell? ⟨gb141, 0, none⟩ = some (.int .i64 a0_0) := (zK BK141.out 0).trans rfl; have hcz32_1 : w31.cell? ⟨gb141, 1, none⟩ = some (.int .i64 a0_1) := (zK BK141.out 1).trans rfl; have hcz32_2 : w31.cell? ⟨gb141, 2, none⟩ = some (.int .i64 a0_2) := (zK BK141.out 2).trans rfl; have hcz32_3 : w31.cell? ⟨gb141, 3, none⟩ = some (.int .i64 a0_3) := (zK BK141.out 3).trans rfl; have hcz32_4 : w31.cell? ⟨gb141, 4, none⟩ = some (.int .i64 a0_4) := (zK BK141.out 4).trans rfl; have hcz32_5 : w31.cell? ⟨gb141, 5, none⟩ = some (.int .i64 a0_5) := (zK BK141.out 5).trans rfl; have hcz32_6 : w31.cell? ⟨gb141, 6, none⟩ = some (.int .i64 a0_6) := (zK BK141.out 6).trans rfl; have hcz32_7 : w31.cell? ⟨gb141, 7, none⟩ = some (.int .i64 a0_7) := (zK BK141.out 7).trans rfl; have hcz32_8 : w31.cell? ⟨gb141, 8, none⟩ = some (.int .i64 a0_8) := (zK BK141.out 8).trans rfl; have hfz32_0 := zL BK141.out 0; have hfz32_1 := zL BK141.out 1; have hfz32_2 := zL BK141.out 2; have hfz32_3 := zL BK141.out 3; have hfz32_4 := zL BK141.out 4; have hfz32_5 := zL BK141.out 5; have hfz32_6 := zL BK141.out 6; have hfz32_7 := zL BK141.out 7; have hfz32_8 := zL BK141.out 8) | ((with_reducible refine gate_callee (f := 43) rfl ?_); refine goesL_ (some 5) rfl rfl Try.func43 (by kernel_rfl) rfl #[.int .i64 a0_0, .int .i64 0, .int .i64 1099511627776] rfl (by (try simp only [zO, zP, zQ]); first | done | rfl | (simp only [zS, zR]; rfl)) ?_; (with_reducible refine (ref23_among.calls a0_0 0 1099511627776 true _ A2.out).mono ?_); rintro e w' ⟨rfl, ⟨nd, rfl⟩⟩; refine ⟨_, rfl, ?_⟩) | (go_at_call 43; (with_reducible refine (ref23_among.calls a0_1 0 1099511627776 true _ A4.out).mono ?_); rintro e w' ⟨rfl, ⟨nd, rfl⟩⟩) | (go_at_call 43; (with_reducible refine (ref23_among.calls a0_2 1 4 false _ A6.out).mono ?_); rintro e w' ⟨rfl, ⟨nd, rfl⟩⟩))
    go_ret
    exact ⟨by first | rfl | (simp [errW_none, errW_some] <;> rfl) | (simp [*, errW_none, errW_some] <;> rfl), by repeat (first | (with_reducible first | exact HB.out | apply zF | apply zD | apply zE | refine zJ ?_ GE141.out) | exact HB.out)⟩
  ·replace c5 := Bool.eq_false_iff.mpr c5
   subst c5
   have H1 : (some false) = some r := by rw [if_neg (show ¬ (false = true) by decide)] at H; exact H
   clear H
   have H := H1
   clear H1
   obtain rfl := Option.some.inj H
   go_enter Try.func31, Try.ntmps31
   go_wp2_with (first | ((with_reducible refine gate_dst (N := 1) rfl ?_); refine box_event ?hg (N := 1) ?hd (cs := #[.int .i64 a0_0, .int .i64 a0_1, .int .i64 a0_2, .int .i64 a0_3, .int .i64 a0_4, .int .i64 a0_5, .int .i64 a0_6, .int .i64 a0_7, .int .i64 a0_8]) (t := 48) ?hr ?_; (case hd => rfl); (case hg => rfl); (case hr => first | (go_simp; done) | (go_simp; rfl)); intro gb141 hg w33 hbox hb; have n0_ := Aside0.mk (zU (by repeat (first | (with_reducible first | exact HB.out | apply zF | apply zD | apply zE) | exact HB.out)) hb); have n1_ := Aside0.mk (hbox); have n2_ := Aside0.mk ((by rw [hg]; exact (zT (by repeat (first | (with_reducible first | exact HB.out | apply zF | apply zD | apply zE) | exact HB.out))) : w.heap.size ≤ gb141)); have n3_ := Aside0.mk ((by rw [hg]; exact (zT (by repeat (first | (with_reducible first | exact HB.out | apply zF | apply zD | apply zE) | exact HB.out))) : w.heap.size ≤ gb141)); clear HB; have HB := n0_; have BK141 := n1_; have GW141 := n2_; have GE141 := n3_; clear n0_ n1_ n2_ n3_; clear hb hbox hg; have hcz34_0 : w33.cell? ⟨gb141, 0, none⟩ = some (.int .i64 a0_0) := (zK BK141.out 0).trans rfl; have hcz34_1 : w33.cell? ⟨gb141, 1, none⟩ = some (.int .i64 a0_1) := (zK BK141.out 1).trans rfl; have hcz34_2 : w33.cell? ⟨gb141, 2, none⟩ = some (.int .i64 a0_2) := (zK BK141.out 2).trans rfl; have hcz34_3 : w33.cell? ⟨gb141, 3, none⟩ = some (.int .i64 a0_3) := (zK BK141.out 3).trans rfl; have hcz34_4 : w33.cell? ⟨gb141, 4, none⟩ = some (.int .i64 a0_4) := (zK BK141.out 4).trans rfl; have hcz34_5 : w33.cell? ⟨gb141, 5, none⟩ = some (.int .i64 a0_5) := (zK BK141.out 5).trans rfl; have hcz34_6 : w33.cell? ⟨gb141, 6, none⟩ = some (.int .i64 a0_6) := (zK BK141.out 6).trans rfl; have hcz34_7 : w33.cell? ⟨gb141, 7, none⟩ = some (.int .i64 a0_7) := (zK BK141.out 7).trans rfl; have hcz34_8 : w33.cell? ⟨gb141, 8, none⟩ = some (.int .i64 a0_8) := (zK BK141.out 8).trans rfl; have hfz34_0 := zL BK141.out 0; have hfz34_1 := zL BK141.out 1; have hfz34_2 := zL BK141.out 2; have hfz34_3 := zL BK141.out 3; have hfz34_4 := zL BK141.out 4; have hfz34_5 := zL BK141.out 5; have hfz34_6 := zL BK141.out 6; have hfz34_7 := zL BK141.out 7; have hfz34_8 := zL BK141.out 8) | ((with_reducible refine gate_callee (f := 43) rfl ?_); refine goesL_ (some 5) rfl rfl Try.func43 (by kernel_rfl) rfl #[.int .i64 a0_0, .int .i64 0, .int .i64 1099511627776] rfl (by (try simp only [zO, zP, zQ]); first | done | rfl | (simp only [zS, zR]; rfl)) ?_; (with_reducible refine (ref23_among.calls a0_0 0 1099511627776 true _ A2.out).mono ?_); rintro e w' ⟨rfl, ⟨nd, rfl⟩⟩; refine ⟨_, rfl, ?_⟩) | (go_at_call 43; (with_reducible refine (ref23_among.calls a0_1 0 1099511627776 false _ A4.out).mono ?_); rintro e w' ⟨rfl, ⟨nd, rfl⟩⟩))
   go_ret
   exact ⟨by first | rfl | (simp [errW_none, errW_some] <;> rfl) | (simp [*, errW_none, errW_some] <;> rfl), by repeat (first | (with_reducible first | exact HB.out | apply zF | apply zD | apply zE | refine zJ ?_ GE141.out) | exact HB.out)⟩
 ·replace c3 := Bool.eq_false_iff.mpr c3
  subst c3
  have H1 : (some false) = some r := by rw [if_neg (show ¬ (false = true) by decide)] at H; exact H
  clear H
  have H := H1
  clear H1
  obtain rfl := Option.some.inj H
  go_enter Try.func31, Try.ntmps31
  go_wp2_with (first | ((with_reducible refine gate_dst (N := 1) rfl ?_); refine box_event ?hg (N := 1) ?hd (cs := #[.int .i64 a0_0, .int .i64 a0_1, .int .i64 a0_2, .int .i64 a0_3, .int .i64 a0_4, .int .i64 a0_5, .int .i64 a0_6, .int .i64 a0_7, .int .i64 a0_8]) (t := 48) ?hr ?_; (case hd => rfl); (case hg => rfl); (case hr => first | (go_simp; done) | (go_simp; rfl)); intro gb141 hg w35 hbox hb; have n0_ := Aside0.mk (zU (by repeat (first | (with_reducible first | exact HB.out | apply zF | apply zD | apply zE) | exact HB.out)) hb); have n1_ := Aside0.mk (hbox); have n2_ := Aside0.mk ((by rw [hg]; exact (zT (by repeat (first | (with_reducible first | exact HB.out | apply zF | apply zD | apply zE) | exact HB.out))) : w.heap.size ≤ gb141)); have n3_ := Aside0.mk ((by rw [hg]; exact (zT (by repeat (first | (with_reducible first | exact HB.out | apply zF | apply zD | apply zE) | exact HB.out))) : w.heap.size ≤ gb141)); clear HB; have HB := n0_; have BK141 := n1_; have GW141 := n2_; have GE141 := n3_; clear n0_ n1_ n2_ n3_; clear hb hbox hg; have hcz36_0 : w35.cell? ⟨gb141, 0, none⟩ = some (.int .i64 a0_0) := (zK BK141.out 0).trans rfl; have hcz36_1 : w35.cell? ⟨gb141, 1, none⟩ = some (.int .i64 a0_1) := (zK BK141.out 1).trans rfl; have hcz36_2 : w35.cell? ⟨gb141, 2, none⟩ = some (.int .i64 a0_2) := (zK BK141.out 2).trans rfl; have hcz36_3 : w35.cell? ⟨gb141, 3, none⟩ = some (.int .i64 a0_3) := (zK BK141.out 3).trans rfl; have hcz36_4 : w35.cell? ⟨gb141, 4, none⟩ = some (.int .i64 a0_4) := (zK BK141.out 4).trans rfl; have hcz36_5 : w35.cell? ⟨gb141, 5, none⟩ = some (.int .i64 a0_5) := (zK BK141.out 5).trans rfl; have hcz36_6 : w35.cell? ⟨gb141, 6, none⟩ = some (.int .i64 a0_6) := (zK BK141.out 6).trans rfl; have hcz36_7 : w35.cell? ⟨gb141, 7, none⟩ = some (.int .i64 a0_7) := (zK BK141.out 7).trans rfl; have hcz36_8 : w35.cell? ⟨gb141, 8, none⟩ = some (.int .i64 a0_8) := (zK BK141.out 8).trans rfl; have hfz36_0 := zL BK141.out 0; have hfz36_1 := zL BK141.out 1; have hfz36_2 := zL BK141.out 2; have hfz36_3 := zL BK141.out 3; have hfz36_4 := zL BK141.out 4; have hfz36_5 := zL BK141.out 5; have hfz36_6 := zL BK141.out 6; have hfz36_7 := zL BK141.out 7; have hfz36_8 := zL BK141.out 8) | ((with_reducible refine gate_callee (f := 43) rfl ?_); refine goesL_ (some 5) rfl rfl Try.func43 (by kernel_rfl) rfl #[.int .i64 a0_0, .int .i64 0, .int .i64 1099511627776] rfl (by (try simp only [zO, zP, zQ]); first | done | rfl | (simp only [zS, zR]; rfl)) ?_; (with_reducible refine (ref23_among.calls a0_0 0 1099511627776 false _ A2.out).mono ?_); rintro e w' ⟨rfl, ⟨nd, rfl⟩⟩; refine ⟨_, rfl, ?_⟩))
  go_ret
  exact ⟨by first | rfl | (simp [errW_none, errW_some] <;> rfl) | (simp [*, errW_none, errW_some] <;> rfl), by repeat (first | (with_reducible first | exact HB.out | apply zF | apply zD | apply zE | refine zJ ?_ GE141.out) | exact HB.out)⟩

/-! ### ref23_six: function 32 -/
def ref23_six.f (a0 : Int) : Option (ByteArray) := (ref01_Of.f (wrap64 (Int.tdiv (wrap64 (Int.tdiv a0 65536)) 65536))).bind fun t151 => ((ref01_Of.f (Int.tmod (wrap64 (Int.tdiv a0 65536)) 65536)).bind fun t152 => (if t151.size + t152.size ≤ 9223372036854775807 then ((ref01_Of.f (Int.tmod a0 65536)).bind fun t153 => (if t151.size + t152.size + t153.size ≤ 9223372036854775807 then (some ((t151 ++ t152) ++ t153)) else (none))) else (none)))
set_option maxHeartbeats 8000000 in
set_option maxRecDepth 100000 in
theorem ref23_six.calls (a0 : Int) (r : ByteArray) (w : World) (h : ref23_six.f a0 = some r) :
 Calls Try.prog 32 #[.int .i64 a0] w fun e w' => e = .returned (.string r) ∧ Below w.heap.size w w' := by
 have HB := Aside0.mk (Below.refl w.heap.size w)
 have H : ((ref01_Of.f (wrap64 (Int.tdiv (wrap64 (Int.tdiv a0 65536)) 65536))).bind fun t151 => ((ref01_Of.f (Int.tmod (wrap64 (Int.tdiv a0 65536)) 65536)).bind fun t152 => (if t151.size + t152.size ≤ 9223372036854775807 then ((ref01_Of.f (Int.tmod a0 65536)).bind fun t153 => (if t151.size + t152.size + t153.size ≤ 9223372036854775807 then (some ((t151 ++ t152) ++ t153)) else (none))) else (none)))) = some r := h
 clear h
 replace H := Option.bind_eq_some_iff.mp H
 obtain ⟨t151, A20, H⟩ := H
 replace H : ((ref01_Of.f (Int.tmod (wrap64 (Int.tdiv a0 65536)) 65536)).bind fun t152 => (if t151.size + t152.size ≤ 9223372036854775807 then ((ref01_Of.f (Int.tmod a0 65536)).bind fun t153 => (if t151.size + t152.size + t153.size ≤ 9223372036854775807 then (some ((t151 ++ t152) ++ t153)) else (none))) else (none))) = some r := H
 have A2 := Aside0.mk A20
 clear A20
 replace H := Option.bind_eq_some_iff.mp H
 obtain ⟨t152, A30, H⟩ := H
 replace H : (if t151.size + t152.size ≤ 9223372036854775807 then ((ref01_Of.f (Int.tmod a0 65536)).bind fun t153 => (if t151.size + t152.size + t153.size ≤ 9223372036854775807 then (some ((t151 ++ t152) ++ t153)) else (none))) else (none)) = some r := H
 have A3 := Aside0.mk A30
 clear A30
 by_cases c4 : t151.size + t152.size ≤ 9223372036854775807
 rotate_left
 ·rw [if_neg c4] at H
  exact absurd H (by simp)

 rw [if_pos c4] at H
 have c4b0 := eq_true c4
 have c4b1 : decide (t151.size + t152.size ≤ 9223372036854775807) = true := zW c4
 try have c4b2 : (9223372036854775807 < t151.size + t152.size) = False := eq_false (Nat.not_lt.2 c4)
 replace H := Option.bind_eq_some_iff.mp H
 obtain ⟨t153, A50, H⟩ := H
 replace H : (if t151.size + t152.size + t153.size ≤ 9223372036854775807 then (some ((t151 ++ t152) ++ t153)) else (none)) = some r := H
 have A5 := Aside0.mk A50
 clear A50
 by_cases c6 : t151.size + t152.size + t153.size ≤ 9223372036854775807
 rotate_left
 ·rw [if_neg c6] at H
  exact absurd H (by simp)
 rw [if_pos c6] at H
 have c6b0 := eq_true c6
 have c6b1 : decide (t151.size + t152.size + t153.size ≤ 9223372036854775807) = true := zW c6
 try have c6b2 : (9223372036854775807 < t151.size + t152.size + t153.size) = False := eq_false (Nat.not_lt.2 c6)
 obtain rfl := Option.some.inj H
 go_enter Try.func32, Try.ntmps32
 go_wp2_with (first | ((with_reducible refine gate_callee (f := 27) rfl ?_); refine goesL_ (some 6) rfl rfl Try.func27 (by kernel_rfl) rfl #[.int .i64 (wrap64 (Int.tdiv (wrap64 (Int.tdiv a0 65536)) 65536))] rfl (by (try simp only [zO, zP, zQ]); first | done | rfl | (simp only [zS, zR]; rfl)) ?_; (with_reducible refine (ref01_Of.calls (wrap64 (Int.tdiv (wrap64 (Int.tdiv a0 65536)) 65536)) t151 _ A2.out).mono ?_); rintro e w7 ⟨rfl, hb⟩; refine ⟨_, rfl, ?_⟩; have n0_ := Aside0.mk (zU (by repeat (first | (with_reducible first | exact HB.out | apply zF | apply zD | apply zE) | exact HB.out)) hb); clear HB; have HB := n0_; clear n0_; (try clear hb); (try clear hb2); (try clear hk); (try clear hi)) | ((with_reducible refine gate_callee (f := 27) rfl ?_); refine goesL_ (some 10) rfl rfl Try.func27 (by kernel_rfl) rfl #[.int .i64 (Int.tmod (wrap64 (Int.tdiv a0 65536)) 65536)] rfl (by (try simp only [zO, zP, zQ]); first | done | rfl | (simp only [zS, zR]; rfl)) ?_; (with_reducible refine (ref01_Of.calls (Int.tmod (wrap64 (Int.tdiv a0 65536)) 65536) t152 _ A3.out).mono ?_); rintro e w8 ⟨rfl, hb⟩; refine ⟨_, rfl, ?_⟩; have n0_ := Aside0.mk (zU (by repeat (first | (with_reducible first | exact HB.out | apply zF | apply zD | apply zE) | exact HB.out)) hb); clear HB; have HB := n0_; clear n0_; (try clear hb); (try clear hb2); (try clear hk); (try clear hi)) | ((with_reducible refine gate_callee (f := 27) rfl ?_); refine goesL_ (some 14) rfl rfl Try.func27 (by kernel_rfl) rfl #[.int .i64 (Int.tmod a0 65536)] rfl (by (try simp only [zO, zP, zQ]); first | done | rfl | (simp only [zS, zR]; rfl)) ?_; (with_reducible refine (ref01_Of.calls (Int.tmod a0 65536) t153 _ A5.out).mono ?_); rintro e w9 ⟨rfl, hb⟩; refine ⟨_, rfl, ?_⟩; have n0_ := Aside0.mk (zU (by repeat (first | (with_reducible first | exact HB.out | apply zF | apply zD | apply zE) | exact HB.out)) hb); clear HB; have HB := n0_; clear n0_; (try clear hb); (try clear hb2); (try clear hk); (try clear hi)))
 go_ret
 exact ⟨by first | rfl | (simp [errW_none, errW_some] <;> rfl) | (simp [*, errW_none, errW_some] <;> rfl), by repeat (first | (with_reducible first | exact HB.out | apply zF | apply zD | apply zE) | exact HB.out)⟩
end Go.Proofs.Ytfapfpkijeaapaa.P

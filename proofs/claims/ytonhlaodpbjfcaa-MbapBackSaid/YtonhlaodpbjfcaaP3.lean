-- Written by a program of this session (wip/mkprint.py). Not trusted: Lean checks it.
import Derived.Test.YtonhlaodpbjfcaaP0
import Derived.Test.YtonhlaodpbjfcaaP2
namespace Go.Proofs.Ytonhlaodpbjfcaa.P
open Go.RowKit Go.Proofs.YtonhlaodpbjfcaaW.PrintWords Go.Proofs.YtonhlaodpbjfcaaW.PrintLast Go.Proofs.YtonhlaodpbjfcaaW.PrintMore
attribute [local go_sem] max2_int min2_int max_two min_two max_three min_three max_four min_four   -- for this text's walks alone
set_option linter.unusedVariables false
set_option linter.unusedSimpArgs false

/-! ### ref01_Of: function 16 -/
def ref01_Of.f (a0 : Int) : Option (ByteArray) := (ref01_Put.f a0).bind fun bt146 => (some bt146.1)
set_option maxHeartbeats 8000000 in
set_option maxRecDepth 100000 in
theorem ref01_Of.calls (a0 : Int) (r : ByteArray) (w : World) (h : ref01_Of.f a0 = some r) :
    Calls Try.prog 16 #[.int .i64 a0] w fun e w' => e = .returned (.string r) ∧ Below w.heap.size w w' := by
  have HB := Aside0.mk (Below.refl w.heap.size w)
  have H : ((ref01_Put.f a0).bind fun bt146 => (some bt146.1)) = some r := h
  clear h
  replace H := Option.bind_eq_some_iff.mp H
  obtain ⟨⟨t146, t147⟩, A20, H⟩ := H
  replace H : (some t146) = some r := H
  have A2 := Aside0.mk A20
  clear A20
  obtain rfl := Option.some.inj H
  go_enter Try.func16, Try.ntmps16
  go_wp2_with (first | ((with_reducible refine gate_callee (f := 20) rfl ?_); refine goesL_ (some 7) rfl rfl Try.func20 (by kernel_rfl) rfl #[.int .i64 a0] rfl (by (try simp only [List.map_toArray, List.map_cons, List.map_nil]); first | done | rfl | (simp only [List.length_drop, List.length_take]; rfl)) ?_; (with_reducible refine (ref01_Put.calls a0 t146 t147 _ A2.out).mono ?_); rintro e w3 ⟨rfl, hb⟩; refine ⟨_, rfl, ?_⟩; have n0_ := Aside0.mk (below_step (by repeat (first | (with_reducible first | exact HB.out | apply below_alloc | apply pw_below_drewN | apply below_drew1) | exact HB.out)) hb); clear HB; have HB := n0_; clear n0_; (try clear hb); (try clear hb2); (try clear hk); (try clear hi)))
  go_ret
  exact ⟨by first | rfl | (simp [errW_none, errW_some] <;> rfl) | (simp [*, errW_none, errW_some] <;> rfl), by repeat (first | (with_reducible first | exact HB.out | apply below_alloc | apply pw_below_drewN | apply below_drew1) | exact HB.out)⟩

/-! ### ref08_Put: function 8 -/
def ref08_Put.f (a0_0 : Int) (a0_1 : Int) (a0_2 : ByteArray) : Option (ByteArray × Bool) := (ref08_Right.f a0_0 a0_1 a0_2).bind fun t149 => (if t149 = true then ((ref01_Of.f a0_0).bind fun t150 => (if t150.size + 2 ≤ 9223372036854775807 then ((ref01_Of.f (wrap64 (1 + (a0_2.size : Int)))).bind fun t151 => (if t150.size + 2 + t151.size ≤ 9223372036854775807 then ((some (([(a0_1) % 256] : List Int) : List Int)).bind fun y152 => (if t150.size + 2 + t151.size + ((strOfNums y152).size) ≤ 9223372036854775807 then (if t150.size + 2 + t151.size + ((strOfNums y152).size) + a0_2.size ≤ 9223372036854775807 then (some ((((t150 ++ (⟨#[0, 0]⟩ : ByteArray)) ++ t151) ++ (strOfNums y152)) ++ a0_2, true)) else (none)) else (none))) else (none))) else (none))) else (some ((⟨#[]⟩ : ByteArray), false)))
def ref08_Put.T3 : Bool × List (List Nat × List Nat) := (true, [([], []), ([0], [0]), ([1], [1]), ([2], [2]), ([], []), ([4], [4]), ([5], [5]), ([6], [6]), ([7, 2], [7]), ([3, 8], [3, 8]), ([], []), ([10], [10]), ([11], [11]), ([12], [12]), ([13], [13]), ([9, 14], [9, 14]), ([], []), ([16], [16]), ([15, 17], [15, 17]), ([18, 8, 0, 1, 2, 3, 4, 5, 6, 7, 8, 9, 10, 11, 12, 13, 14, 15, 16, 17, 18], [18]), ([19, 0, 1, 2, 3, 4, 5, 6, 7, 8, 9, 10, 11, 12, 13, 14, 15, 16, 17, 18, 19], [])])
def ref08_Put.B3 : List Nat := [0, 1, 3, 7, 0, 16, 48, 112, 247, 511, 0, 1024, 3072, 7168, 15360, 32767, 0, 65536, 262143, 524287, 1048575]
theorem ref08_Put.tab3 : rtab .any (opsOf Try.f8 3) = ref08_Put.T3 := by kernel_rfl
theorem ref08_Put.bits3 : waitsOk ref08_Put.T3.2 ref08_Put.B3 = true := by kernel_rfl
set_option maxHeartbeats 8000000 in
set_option maxRecDepth 100000 in
theorem ref08_Put.calls (a0_0 : Int) (a0_1 : Int) (a0_2 : ByteArray) (r1 : ByteArray) (r2 : Bool) (w : World) (h : ref08_Put.f a0_0 a0_1 a0_2 = some (r1, r2)) :
    Calls Try.prog 8 #[.agg #[.int .i64 a0_0, .int .i64 a0_1, .string a0_2]] w fun e w' => e = .returned (.tuple #[.string r1, .bool r2]) ∧ Below w.heap.size w w' := by
  have hu23 := Try.underlying23
  have HB := Aside0.mk (Below.refl w.heap.size w)
  have H : ((ref08_Right.f a0_0 a0_1 a0_2).bind fun t149 => (if t149 = true then ((ref01_Of.f a0_0).bind fun t150 => (if t150.size + 2 ≤ 9223372036854775807 then ((ref01_Of.f (wrap64 (1 + (a0_2.size : Int)))).bind fun t151 => (if t150.size + 2 + t151.size ≤ 9223372036854775807 then ((some (([(a0_1) % 256] : List Int) : List Int)).bind fun y152 => (if t150.size + 2 + t151.size + ((strOfNums y152).size) ≤ 9223372036854775807 then (if t150.size + 2 + t151.size + ((strOfNums y152).size) + a0_2.size ≤ 9223372036854775807 then (some ((((t150 ++ (⟨#[0, 0]⟩ : ByteArray)) ++ t151) ++ (strOfNums y152)) ++ a0_2, true)) else (none)) else (none))) else (none))) else (none))) else (some ((⟨#[]⟩ : ByteArray), false)))) = some (r1, r2) := h
  clear h
  replace H := Option.bind_eq_some_iff.mp H
  obtain ⟨t149, A20, H⟩ := H
  replace H : (if t149 = true then ((ref01_Of.f a0_0).bind fun t150 => (if t150.size + 2 ≤ 9223372036854775807 then ((ref01_Of.f (wrap64 (1 + (a0_2.size : Int)))).bind fun t151 => (if t150.size + 2 + t151.size ≤ 9223372036854775807 then ((some (([(a0_1) % 256] : List Int) : List Int)).bind fun y152 => (if t150.size + 2 + t151.size + ((strOfNums y152).size) ≤ 9223372036854775807 then (if t150.size + 2 + t151.size + ((strOfNums y152).size) + a0_2.size ≤ 9223372036854775807 then (some ((((t150 ++ (⟨#[0, 0]⟩ : ByteArray)) ++ t151) ++ (strOfNums y152)) ++ a0_2, true)) else (none)) else (none))) else (none))) else (none))) else (some ((⟨#[]⟩ : ByteArray), false))) = some (r1, r2) := H
  have A2 := Aside0.mk A20
  clear A20
  by_cases c3 : t149 = true
  · subst c3
    have H1 : ((ref01_Of.f a0_0).bind fun t150 => (if t150.size + 2 ≤ 9223372036854775807 then ((ref01_Of.f (wrap64 (1 + (a0_2.size : Int)))).bind fun t151 => (if t150.size + 2 + t151.size ≤ 9223372036854775807 then ((some (([(a0_1) % 256] : List Int) : List Int)).bind fun y152 => (if t150.size + 2 + t151.size + ((strOfNums y152).size) ≤ 9223372036854775807 then (if t150.size + 2 + t151.size + ((strOfNums y152).size) + a0_2.size ≤ 9223372036854775807 then (some ((((t150 ++ (⟨#[0, 0]⟩ : ByteArray)) ++ t151) ++ (strOfNums y152)) ++ a0_2, true)) else (none)) else (none))) else (none))) else (none))) = some (r1, r2) := by rw [if_pos rfl] at H; exact H
    clear H
    have H := H1
    clear H1
    replace H := Option.bind_eq_some_iff.mp H
    obtain ⟨t150, A40, H⟩ := H
    replace H : (if t150.size + 2 ≤ 9223372036854775807 then ((ref01_Of.f (wrap64 (1 + (a0_2.size : Int)))).bind fun t151 => (if t150.size + 2 + t151.size ≤ 9223372036854775807 then ((some (([(a0_1) % 256] : List Int) : List Int)).bind fun y152 => (if t150.size + 2 + t151.size + ((strOfNums y152).size) ≤ 9223372036854775807 then (if t150.size + 2 + t151.size + ((strOfNums y152).size) + a0_2.size ≤ 9223372036854775807 then (some ((((t150 ++ (⟨#[0, 0]⟩ : ByteArray)) ++ t151) ++ (strOfNums y152)) ++ a0_2, true)) else (none)) else (none))) else (none))) else (none)) = some (r1, r2) := H
    have A4 := Aside0.mk A40
    clear A40
    by_cases c5 : t150.size + 2 ≤ 9223372036854775807
    · rw [if_pos c5] at H
      have c5b0 := eq_true c5
      have c5b1 : decide (t150.size + 2 ≤ 9223372036854775807) = true := decide_eq_true c5
      try have c5b2 : (9223372036854775807 < t150.size + 2) = False := eq_false (Nat.not_lt.2 c5)
      replace H := Option.bind_eq_some_iff.mp H
      obtain ⟨t151, A60, H⟩ := H
      replace H : (if t150.size + 2 + t151.size ≤ 9223372036854775807 then ((some (([(a0_1) % 256] : List Int) : List Int)).bind fun y152 => (if t150.size + 2 + t151.size + ((strOfNums y152).size) ≤ 9223372036854775807 then (if t150.size + 2 + t151.size + ((strOfNums y152).size) + a0_2.size ≤ 9223372036854775807 then (some ((((t150 ++ (⟨#[0, 0]⟩ : ByteArray)) ++ t151) ++ (strOfNums y152)) ++ a0_2, true)) else (none)) else (none))) else (none)) = some (r1, r2) := H
      have A6 := Aside0.mk A60
      clear A60
      by_cases c7 : t150.size + 2 + t151.size ≤ 9223372036854775807
      · rw [if_pos c7] at H
        have c7b0 := eq_true c7
        have c7b1 : decide (t150.size + 2 + t151.size ≤ 9223372036854775807) = true := decide_eq_true c7
        try have c7b2 : (9223372036854775807 < t150.size + 2 + t151.size) = False := eq_false (Nat.not_lt.2 c7)
        obtain ⟨y152, hy152⟩ : ∃ y_ : List Int, y_ = (([(a0_1) % 256] : List Int)) := ⟨_, rfl⟩
        replace H : (if t150.size + 2 + t151.size + ((strOfNums y152).size) ≤ 9223372036854775807 then (if t150.size + 2 + t151.size + ((strOfNums y152).size) + a0_2.size ≤ 9223372036854775807 then (some ((((t150 ++ (⟨#[0, 0]⟩ : ByteArray)) ++ t151) ++ (strOfNums y152)) ++ a0_2, true)) else (none)) else (none)) = some (r1, r2) := by first | (rw [hy152]; with_reducible exact H) | (have H2_ := (Option.bind_some _ _).symm.trans H; rw [hy152]; with_reducible exact H2_) | (have H2_ := (Option.bind_some _ _).symm.trans H; with_reducible exact H2_) | with_reducible exact H | (rw [hy152]; exact H) | exact H
        have Ny152 := Aside0.mk hy152
        clear hy152
        by_cases c8 : t150.size + 2 + t151.size + ((strOfNums y152).size) ≤ 9223372036854775807
        · rw [if_pos c8] at H
          have c8b0 := eq_true c8
          have c8b1 : decide (t150.size + 2 + t151.size + ((strOfNums y152).size) ≤ 9223372036854775807) = true := decide_eq_true c8
          try have c8b2 : (9223372036854775807 < t150.size + 2 + t151.size + ((strOfNums y152).size)) = False := eq_false (Nat.not_lt.2 c8)
          by_cases c9 : t150.size + 2 + t151.size + ((strOfNums y152).size) + a0_2.size ≤ 9223372036854775807
          · rw [if_pos c9] at H
            have c9b0 := eq_true c9
            have c9b1 : decide (t150.size + 2 + t151.size + ((strOfNums y152).size) + a0_2.size ≤ 9223372036854775807) = true := decide_eq_true c9
            try have c9b2 : (9223372036854775807 < t150.size + 2 + t151.size + ((strOfNums y152).size) + a0_2.size) = False := eq_false (Nat.not_lt.2 c9)
            simp only [Option.some.injEq, Prod.mk.injEq] at H
            obtain ⟨rfl, rfl⟩ := H
            go_enter Try.func8, Try.ntmps8
            try go_wp2_with (first | ((with_reducible refine gate_dst (N := 1) rfl ?_); refine box_event ?hg (N := 1) ?hd (cs := #[.int .i64 a0_0, .int .i64 a0_1, .string a0_2]) (t := 23) ?hr ?_; (case hd => rfl); (case hg => rfl); (case hr => first | (go_simp; done) | (go_simp; rfl)); intro gb148 hg w10 hbox hb; have n0_ := Aside0.mk (below_step (by repeat (first | (with_reducible first | exact HB.out | apply below_alloc | apply pw_below_drewN | apply below_drew1) | exact HB.out)) hb); have n1_ := Aside0.mk (hbox); have n2_ := Aside0.mk ((by rw [hg]; exact (below_size (by repeat (first | (with_reducible first | exact HB.out | apply below_alloc | apply pw_below_drewN | apply below_drew1) | exact HB.out))) : w.heap.size ≤ gb148)); have n3_ := Aside0.mk ((by rw [hg]; exact (below_size (by repeat (first | (with_reducible first | exact HB.out | apply below_alloc | apply pw_below_drewN | apply below_drew1) | exact HB.out))) : w.heap.size ≤ gb148)); clear HB; have HB := n0_; have BK148 := n1_; have GW148 := n2_; have GE148 := n3_; clear n0_ n1_ n2_ n3_; clear hb hbox hg; have hcz11_0 : w10.cell? ⟨gb148, 0, none⟩ = some (.int .i64 a0_0) := (blk_cell BK148.out 0).trans rfl; have hcz11_1 : w10.cell? ⟨gb148, 1, none⟩ = some (.int .i64 a0_1) := (blk_cell BK148.out 1).trans rfl; have hcz11_2 : w10.cell? ⟨gb148, 2, none⟩ = some (.string a0_2) := (blk_cell BK148.out 2).trans rfl; have hfz11_0 := blk_frozen BK148.out 0; have hfz11_1 := blk_frozen BK148.out 1; have hfz11_2 := blk_frozen BK148.out 2) | ((with_reducible refine gate_callee (f := 14) rfl ?_); refine goesL_ (some 5) rfl rfl Try.func14 (by kernel_rfl) rfl #[.agg #[.int .i64 a0_0, .int .i64 a0_1, .string a0_2]] rfl (by (try simp only [List.map_toArray, List.map_cons, List.map_nil]); first | done | rfl | (simp only [List.length_drop, List.length_take]; rfl)) ?_; (with_reducible refine (ref08_Right.calls a0_0 a0_1 a0_2 true _ A2.out).mono ?_); rintro e w12 ⟨rfl, hb⟩; refine ⟨_, rfl, ?_⟩; have n0_ := Aside0.mk (blk_below (g := gb148) (o := .cells #[.int .i64 a0_0, .int .i64 a0_1, .string a0_2] 23 (0, 0)) (by (with_reducible repeat (first | refine blk_drewN ?_ _ | refine blk_drew ?_ | refine blk_alloc ?_ _)); exact BK148.out) hb); have n1_ := Aside0.mk (below_step (by repeat (first | (with_reducible first | exact HB.out | apply below_alloc | apply pw_below_drewN | apply below_drew1 | refine below_set ?_ GE148.out) | exact HB.out)) hb); clear BK148; clear HB; have BK148 := n0_; have HB := n1_; clear n0_ n1_; (try clear hb); (try clear hb2); (try clear hk); (try clear hi)))
            have n0_ := Aside0.mk (blk_drew BK148.out)
            have n1_ := Aside0.mk (below_drew1 HB.out)
            clear BK148
            clear HB
            have BK148 := n0_
            have HB := n1_
            clear n0_ n1_
            refine start_ (n := 21) (S := fun w' => w'.cell? ⟨gb148, 0, none⟩ = some (.int .i64 a0_0) ∧ w'.cell? ⟨gb148, 1, none⟩ = some (.int .i64 a0_1) ∧ w'.cell? ⟨gb148, 2, none⟩ = some (.string a0_2)) (ds := []) #[false, false, false, false, false, false, false, false, false, false, false, false, false, false, false, false, false, false, false, false, false] (by kernel_rfl) rfl rfl ⟨(blk_cell BK148.out 0).trans rfl, (blk_cell BK148.out 1).trans rfl, (blk_cell BK148.out 2).trans rfl⟩ (fun hHeld => ?_); refine with_tabW ref08_Put.tab3 ref08_Put.bits3 (fun HT_ HW_ => ?_)
            generalize w12.drew = w13 at BK148 HB hHeld ⊢
            refine pure_ (i := 0) (N := some 7) (v := ?_) (a' := ?_) #[true, false, false, false, false, false, false, false, false, false, false, false, false, false, false, false, false, false, false, false, false] rfl rfl (any_of HT_.out (by kernel_rfl)) (fun _ _ _ h => h) (Or.inl ⟨by rfl, ?_⟩) ?_ ?_
            rotate_left
            · intro w'
              go_simp
              with_reducible rfl
            rotate_left
            · simp only [Act.put, List.setIfInBounds_toArray, List.set_cons_zero, List.set_cons_succ, i64_w, i32_w]
              rfl
            refine pure_ (i := 4) (N := some 11) (v := ?_) (a' := ?_) #[true, false, false, false, true, false, false, false, false, false, false, false, false, false, false, false, false, false, false, false, false] rfl rfl (any_of HT_.out (by kernel_rfl)) (fun _ _ _ h => h) (Or.inl ⟨by rfl, ?_⟩) ?_ ?_
            rotate_left
            · intro w'
              go_simp
              with_reducible rfl
            rotate_left
            · simp only [Act.put, List.setIfInBounds_toArray, List.set_cons_zero, List.set_cons_succ, i64_w, i32_w]
              rfl
            refine pure_ (i := 10) (N := some 17) (v := ?_) (a' := ?_) #[true, false, false, false, true, false, false, false, false, false, true, false, false, false, false, false, false, false, false, false, false] rfl rfl (any_of HT_.out (by kernel_rfl)) (fun _ _ _ h => h) (Or.inl ⟨by rfl, ?_⟩) ?_ ?_
            rotate_left
            · intro w'
              go_simp
              with_reducible rfl
            rotate_left
            · simp only [Act.put, List.setIfInBounds_toArray, List.set_cons_zero, List.set_cons_succ, i64_w, i32_w]
              rfl
            refine pure_ (i := 16) (N := some 23) (v := ?_) (a' := ?_) #[true, false, false, false, true, false, false, false, false, false, true, false, false, false, false, false, true, false, false, false, false] rfl rfl (any_of HT_.out (by kernel_rfl)) (fun _ _ _ h => h) (Or.inl ⟨by rfl, ?_⟩) ?_ ?_
            rotate_left
            · intro w'
              go_simp
              with_reducible rfl
            rotate_left
            · simp only [Act.put, List.setIfInBounds_toArray, List.set_cons_zero, List.set_cons_succ, i64_w, i32_w]
              rfl
            refine take_ (i := 1) (N := some 8) (v := ?_) (a' := ?_) #[true, true, false, false, true, false, false, false, false, false, true, false, false, false, false, false, true, false, false, false, false] rfl rfl (take_ofW HT_.out HW_.out (by kernel_rfl)) (fun _ _ _ h => h) (Or.inl ⟨by rfl, ?_⟩) hHeld ?_ ?_
            rotate_left
            · rintro w' ⟨s0, s1, s2⟩
              go_simp
              with_reducible rfl
            rotate_left
            · simp only [Act.put, List.setIfInBounds_toArray, List.set_cons_zero, List.set_cons_succ, i64_w, i32_w]
              rfl
            refine take_ (i := 5) (N := some 12) (v := ?_) (a' := ?_) #[true, true, false, false, true, true, false, false, false, false, true, false, false, false, false, false, true, false, false, false, false] rfl rfl (take_ofW HT_.out HW_.out (by kernel_rfl)) (fun _ _ _ h => h) (Or.inl ⟨by rfl, ?_⟩) hHeld ?_ ?_
            rotate_left
            · rintro w' ⟨s0, s1, s2⟩
              go_simp
              with_reducible rfl
            rotate_left
            · simp only [Act.put, List.setIfInBounds_toArray, List.set_cons_zero, List.set_cons_succ, i64_w, i32_w]
              rfl
            refine pure_ (i := 6) (N := some 13) (v := ?_) (a' := ?_) #[true, true, false, false, true, true, true, false, false, false, true, false, false, false, false, false, true, false, false, false, false] rfl rfl (any_of HT_.out (by kernel_rfl)) (fun _ _ _ h => h) (Or.inl ⟨by rfl, ?_⟩) ?_ ?_
            rotate_left
            · intro w'
              go_simp
              with_reducible rfl
            rotate_left
            · simp only [Act.put, List.setIfInBounds_toArray, List.set_cons_zero, List.set_cons_succ, i64_w, i32_w]
              rfl
            refine pure_ (i := 7) (N := some 14) (v := ?_) (a' := ?_) #[true, true, false, false, true, true, true, true, false, false, true, false, false, false, false, false, true, false, false, false, false] rfl rfl (any_of HT_.out (by kernel_rfl)) (fun _ _ _ h => h) (Or.inl ⟨by rfl, ?_⟩) ?_ ?_
            rotate_left
            · intro w'
              go_simp
              with_reducible rfl
            rotate_left
            · simp only [Act.put, List.setIfInBounds_toArray, List.set_cons_zero, List.set_cons_succ, i64_w, i32_w]
              rfl
            refine take_ (i := 11) (N := some 18) (v := ?_) (a' := ?_) #[true, true, false, false, true, true, true, true, false, false, true, true, false, false, false, false, true, false, false, false, false] rfl rfl (take_ofW HT_.out HW_.out (by kernel_rfl)) (fun _ _ _ h => h) (Or.inl ⟨by rfl, ?_⟩) hHeld ?_ ?_
            rotate_left
            · rintro w' ⟨s0, s1, s2⟩
              go_simp
              with_reducible rfl
            rotate_left
            · simp only [Act.put, List.setIfInBounds_toArray, List.set_cons_zero, List.set_cons_succ, i64_w, i32_w]
              rfl
            refine pure_ (i := 12) (N := some 19) (v := ?_) (a' := ?_) #[true, true, false, false, true, true, true, true, false, false, true, true, true, false, false, false, true, false, false, false, false] rfl rfl (any_of HT_.out (by kernel_rfl)) (fun _ _ _ h => h) (Or.inl ⟨by rfl, ?_⟩) ?_ ?_
            rotate_left
            · intro w'
              go_simp
              with_reducible rfl
            rotate_left
            · simp only [Act.put, List.setIfInBounds_toArray, List.set_cons_zero, List.set_cons_succ, i64_w, i32_w]
              rfl
            refine take_ (i := 17) (N := some 24) (v := ?_) (a' := ?_) #[true, true, false, false, true, true, true, true, false, false, true, true, true, false, false, false, true, true, false, false, false] rfl rfl (take_ofW HT_.out HW_.out (by kernel_rfl)) (fun _ _ _ h => h) (Or.inl ⟨by rfl, ?_⟩) hHeld ?_ ?_
            rotate_left
            · rintro w' ⟨s0, s1, s2⟩
              go_simp
              with_reducible rfl
            rotate_left
            · simp only [Act.put, List.setIfInBounds_toArray, List.set_cons_zero, List.set_cons_succ, i64_w, i32_w]
              rfl
            refine join_ (σ := Value) 4 #[true, true, true, true, true, true, true, true, true, true, true, true, true, true, true, false, true, true, false, false, false] (fun s_ => [(9, .string t150), (15, .string t151), (20, s_), (21, .string (strOfNums y152)), (10, .string (t150 ++ (⟨#[0, 0]⟩ : ByteArray))), (16, .string ((t150 ++ (⟨#[0, 0]⟩ : ByteArray)) ++ t151))]) (fun s_ w' => (w'.cell? ⟨gb148, 0, none⟩ = some (.int .i64 a0_0) ∧ w'.cell? ⟨gb148, 1, none⟩ = some (.int .i64 a0_1) ∧ w'.cell? ⟨gb148, 2, none⟩ = some (.string a0_2)) ∧ (Kd.R (Kd.int .u8) 5 w' w.heap.size (fun _ => True) s_ y152) ∧ (w'.heap[gb148]? = some (.cells #[.int .i64 a0_0, .int .i64 a0_1, .string a0_2] 23 (0, 0))) ∧ (Below w.heap.size w w')) ?_ ?_
            rotate_left
            · intro hJ2_8_13_14
              refine join_ (σ := Value) 5 #[true, true, true, true, true, true, true, true, true, true, true, true, true, true, false, false, true, true, false, false, false] (fun s_ => [(9, .string t150), (15, .string t151), (20, s_), (10, .string (t150 ++ (⟨#[0, 0]⟩ : ByteArray))), (16, .string ((t150 ++ (⟨#[0, 0]⟩ : ByteArray)) ++ t151))]) (fun s_ w' => (w'.cell? ⟨gb148, 0, none⟩ = some (.int .i64 a0_0) ∧ w'.cell? ⟨gb148, 1, none⟩ = some (.int .i64 a0_1) ∧ w'.cell? ⟨gb148, 2, none⟩ = some (.string a0_2)) ∧ (Kd.R (Kd.int .u8) 5 w' w.heap.size (fun _ => True) s_ y152) ∧ (w'.heap[gb148]? = some (.cells #[.int .i64 a0_0, .int .i64 a0_1, .string a0_2] 23 (0, 0))) ∧ (Below w.heap.size w w')) ?_ ?_
              rotate_left
              · intro hJ2_8_13
                refine join_ (σ := Value) 6 #[true, true, true, true, true, true, true, true, false, false, true, true, true, true, true, false, true, true, false, false, false] (fun s_ => [(9, .string t150), (20, s_), (21, .string (strOfNums y152)), (10, .string (t150 ++ (⟨#[0, 0]⟩ : ByteArray)))]) (fun s_ w' => (w'.cell? ⟨gb148, 0, none⟩ = some (.int .i64 a0_0) ∧ w'.cell? ⟨gb148, 1, none⟩ = some (.int .i64 a0_1) ∧ w'.cell? ⟨gb148, 2, none⟩ = some (.string a0_2)) ∧ (Kd.R (Kd.int .u8) 5 w' w.heap.size (fun _ => True) s_ y152) ∧ (w'.heap[gb148]? = some (.cells #[.int .i64 a0_0, .int .i64 a0_1, .string a0_2] 23 (0, 0))) ∧ (Below w.heap.size w w')) ?_ ?_
                rotate_left
                · intro hJ2_13_14
                  refine join_ (σ := Unit) 6 #[true, true, true, true, true, true, true, true, true, true, true, true, true, false, false, false, true, true, false, false, false] (fun s_ => [(9, .string t150), (15, .string t151), (10, .string (t150 ++ (⟨#[0, 0]⟩ : ByteArray))), (16, .string ((t150 ++ (⟨#[0, 0]⟩ : ByteArray)) ++ t151))]) (fun s_ w' => (w'.cell? ⟨gb148, 0, none⟩ = some (.int .i64 a0_0) ∧ w'.cell? ⟨gb148, 1, none⟩ = some (.int .i64 a0_1) ∧ w'.cell? ⟨gb148, 2, none⟩ = some (.string a0_2)) ∧ (w'.heap[gb148]? = some (.cells #[.int .i64 a0_0, .int .i64 a0_1, .string a0_2] 23 (0, 0))) ∧ (Below w.heap.size w w')) ?_ ?_
                  rotate_left
                  · intro hJ2_8
                    refine join_ (σ := Value) 7 #[true, true, true, true, true, true, true, true, false, false, true, true, true, true, false, false, true, true, false, false, false] (fun s_ => [(9, .string t150), (20, s_), (10, .string (t150 ++ (⟨#[0, 0]⟩ : ByteArray)))]) (fun s_ w' => (w'.cell? ⟨gb148, 0, none⟩ = some (.int .i64 a0_0) ∧ w'.cell? ⟨gb148, 1, none⟩ = some (.int .i64 a0_1) ∧ w'.cell? ⟨gb148, 2, none⟩ = some (.string a0_2)) ∧ (Kd.R (Kd.int .u8) 5 w' w.heap.size (fun _ => True) s_ y152) ∧ (w'.heap[gb148]? = some (.cells #[.int .i64 a0_0, .int .i64 a0_1, .string a0_2] 23 (0, 0))) ∧ (Below w.heap.size w w')) ?_ ?_
                    rotate_left
                    · intro hJ2_13
                      refine join_ (σ := Value) 8 #[true, true, false, false, true, true, true, true, false, false, true, true, true, true, true, false, true, true, false, false, false] (fun s_ => [(20, s_), (21, .string (strOfNums y152))]) (fun s_ w' => (w'.cell? ⟨gb148, 0, none⟩ = some (.int .i64 a0_0) ∧ w'.cell? ⟨gb148, 1, none⟩ = some (.int .i64 a0_1) ∧ w'.cell? ⟨gb148, 2, none⟩ = some (.string a0_2)) ∧ (Kd.R (Kd.int .u8) 5 w' w.heap.size (fun _ => True) s_ y152) ∧ (w'.heap[gb148]? = some (.cells #[.int .i64 a0_0, .int .i64 a0_1, .string a0_2] 23 (0, 0))) ∧ (Below w.heap.size w w')) ?_ ?_
                      rotate_left
                      · intro hJ13_14
                        refine join_ (σ := Unit) 8 #[true, true, true, true, true, true, true, true, false, false, true, true, true, false, false, false, true, true, false, false, false] (fun s_ => [(9, .string t150), (10, .string (t150 ++ (⟨#[0, 0]⟩ : ByteArray)))]) (fun s_ w' => (w'.cell? ⟨gb148, 0, none⟩ = some (.int .i64 a0_0) ∧ w'.cell? ⟨gb148, 1, none⟩ = some (.int .i64 a0_1) ∧ w'.cell? ⟨gb148, 2, none⟩ = some (.string a0_2)) ∧ (w'.heap[gb148]? = some (.cells #[.int .i64 a0_0, .int .i64 a0_1, .string a0_2] 23 (0, 0))) ∧ (Below w.heap.size w w')) ?_ ?_
                        rotate_left
                        · intro hJ2
                          refine join_ (σ := Value) 9 #[true, true, false, false, true, true, true, true, false, false, true, true, true, true, false, false, true, true, false, false, false] (fun s_ => [(20, s_)]) (fun s_ w' => (w'.cell? ⟨gb148, 0, none⟩ = some (.int .i64 a0_0) ∧ w'.cell? ⟨gb148, 1, none⟩ = some (.int .i64 a0_1) ∧ w'.cell? ⟨gb148, 2, none⟩ = some (.string a0_2)) ∧ (Kd.R (Kd.int .u8) 5 w' w.heap.size (fun _ => True) s_ y152) ∧ (w'.heap[gb148]? = some (.cells #[.int .i64 a0_0, .int .i64 a0_1, .string a0_2] 23 (0, 0))) ∧ (Below w.heap.size w w')) ?_ ?_
                          rotate_left
                          · intro hJ13
                            refine two_ (i := 2) (j := 13) (Ni := some 9) (Nj := some 20) #[true, true, true, false, true, true, true, true, false, false, true, true, true, false, false, false, true, true, false, false, false] #[true, true, false, false, true, true, true, true, false, false, true, true, true, true, false, false, true, true, false, false, false] rfl rfl rfl rfl (two_of HT_.out (by kernel_rfl)) (by decide) (by decide) (fun K hK => ?_) (fun K hK => ?_)
                            · skip
                              refine goes_ Try.func16 (by kernel_rfl) rfl #[.int .i64 a0_0] (by rfl) rfl rfl (by (try simp only [List.map_toArray, List.map_cons, List.map_nil]); first | done | rfl | (simp only [List.length_drop, List.length_take]; rfl)) ?_
                              with_reducible refine (ref01_Of.calls a0_0 t150 _ A4.out).mono ?_
                              rintro e w14 ⟨rfl, hb⟩
                              refine ⟨_, rfl, ?_⟩
                              have n0_ := Aside0.mk (blk_below (g := gb148) (o := .cells #[.int .i64 a0_0, .int .i64 a0_1, .string a0_2] 23 (0, 0)) (by (with_reducible repeat (first | refine blk_drewN ?_ _ | refine blk_drew ?_ | refine blk_alloc ?_ _)); exact BK148.out) hb)
                              have n1_ := Aside0.mk (below_step (by repeat (first | (with_reducible first | exact HB.out | apply below_alloc | apply pw_below_drewN | apply below_drew1 | refine below_set ?_ GE148.out) | exact HB.out)) hb)
                              clear BK148
                              clear HB
                              have BK148 := n0_
                              have HB := n1_
                              clear n0_ n1_
                              (try clear hb)
                              (try clear hb2)
                              (try clear hk)
                              (try clear hi)
                              refine hK.out _ _ ⟨(blk_cell BK148.out 0).trans rfl, (blk_cell BK148.out 1).trans rfl, (blk_cell BK148.out 2).trans rfl⟩ (fun hHeld => ?_)
                              clear hK K
                              refine norm_ (a' := ?_) ?_ ?_
                              rotate_left
                              · show Act.put _ (some 9) _ = _
                                simp only [Act.put, List.setIfInBounds_toArray, List.set_cons_zero, List.set_cons_succ, i64_w, i32_w]
                                rfl
                              refine pure_ (i := 3) (N := some 10) (v := ?_) (a' := ?_) #[true, true, true, true, true, true, true, true, false, false, true, true, true, false, false, false, true, true, false, false, false] rfl rfl (any_of HT_.out (by kernel_rfl)) (fun _ _ _ h => h) (Or.inl ⟨by rfl, ?_⟩) ?_ ?_
                              rotate_left
                              · intro w'
                                go_simp
                                with_reducible rfl
                              rotate_left
                              · simp only [Act.put, List.setIfInBounds_toArray, List.set_cons_zero, List.set_cons_succ, i64_w, i32_w]
                                rfl
                              exact norm_ (by first | (simp only [putAll, Act.put, List.setIfInBounds_toArray, List.set_cons_zero, List.set_cons_succ]; done) | (simp only [putAll, Act.put, List.setIfInBounds_toArray, List.set_cons_zero, List.set_cons_succ]; rfl)) (hJ2 () _ ⟨hHeld, (by (with_reducible repeat (first | refine blk_drewN ?_ _ | refine blk_drew ?_ | refine blk_alloc ?_ _)); exact BK148.out), (by repeat (first | (with_reducible first | exact HB.out | apply below_alloc | apply pw_below_drewN | apply below_drew1 | refine below_set ?_ GE148.out) | exact HB.out))⟩)
                            · skip
                              refine Kd.R_lit_step (Kd.int .u8) _ 5 ?hg (N := 20) ?hd (xs := ([(a0_1) % 256] : List Int)) (inner := [.int .u8 ((a0_1) % 256)]) (ok := fun _ => True) (okp := fun _ => True) ?hr ?hp (fun _ hk => hk) trivial (Below.refl _ _) (Nat.le_refl _) (by simp) ?_; (case hd => rfl); (case hg => rfl); (case hr => first | (go_simp; done) | (go_simp; rfl)); (case hp => exact (Reps.one (show Kd.M (Kd.int .u8) _ _ _ ((a0_1) % 256) [.int .u8 ((a0_1) % 256)] from rfl) (Reps.none _ _)))
                              intro v153 w14 ho15 hb hg_ hnew_
                              clear hg_ hnew_
                              (first | rw [← Ny152.out] at ho15 | (simp only [Int.reduceToNat] at ho15; rw [← Ny152.out] at ho15))
                              have n0_ := Aside0.mk (Kd.R_lower ho15 (below_size (by repeat (first | (with_reducible first | exact HB.out | apply below_alloc | apply pw_below_drewN | apply below_drew1 | refine below_set ?_ GE148.out) | exact HB.out))))
                              have n1_ := Aside0.mk (blk_below (g := gb148) (o := .cells #[.int .i64 a0_0, .int .i64 a0_1, .string a0_2] 23 (0, 0)) (by (with_reducible repeat (first | refine blk_drewN ?_ _ | refine blk_drew ?_ | refine blk_alloc ?_ _)); exact BK148.out) hb)
                              have n2_ := Aside0.mk (below_step (by repeat (first | (with_reducible first | exact HB.out | apply below_alloc | apply pw_below_drewN | apply below_drew1 | refine below_set ?_ GE148.out) | exact HB.out)) hb)
                              clear BK148
                              clear HB
                              have HO154 := n0_
                              have BK148 := n1_
                              have HB := n2_
                              clear n0_ n1_ n2_
                              clear hb ho15
                              refine hK.out _ _ ⟨(blk_cell BK148.out 0).trans rfl, (blk_cell BK148.out 1).trans rfl, (blk_cell BK148.out 2).trans rfl⟩ (fun hHeld => ?_)
                              clear hK K
                              refine norm_ (a' := ?_) ?_ ?_
                              rotate_left
                              · show Act.put _ (some 20) _ = _
                                simp only [Act.put, List.setIfInBounds_toArray, List.set_cons_zero, List.set_cons_succ, i64_w, i32_w]
                                rfl
                              exact norm_ (by first | (simp only [putAll, Act.put, List.setIfInBounds_toArray, List.set_cons_zero, List.set_cons_succ]; done) | (simp only [putAll, Act.put, List.setIfInBounds_toArray, List.set_cons_zero, List.set_cons_succ]; rfl)) (hJ13 (v153) _ ⟨hHeld, (by (with_reducible repeat (first | apply Kd.R_alloc | apply Kd.R_drewN | apply Kd.R_drew)); exact HO154.out), (by (with_reducible repeat (first | refine blk_drewN ?_ _ | refine blk_drew ?_ | refine blk_alloc ?_ _)); exact BK148.out), (by repeat (first | (with_reducible first | exact HB.out | apply below_alloc | apply pw_below_drewN | apply below_drew1 | refine below_set ?_ GE148.out) | exact HB.out))⟩)
                          · skip
                            rintro v153 w16 ⟨hS_, h0_, h1_, h2_⟩
                            have n0_ : Aside0 (Kd.R (Kd.int .u8) 5 w16 w.heap.size (fun _ => True) v153 y152) := ⟨h0_⟩
                            have n1_ : Aside0 (w16.heap[gb148]? = some (.cells #[.int .i64 a0_0, .int .i64 a0_1, .string a0_2] 23 (0, 0))) := ⟨h1_⟩
                            have n2_ : Aside0 (Below w.heap.size w w16) := ⟨h2_⟩
                            clear BK148
                            clear HB
                            clear h0_ h1_ h2_
                            have HO154 := n0_
                            have BK148 := n1_
                            have HB := n2_
                            clear n0_ n1_ n2_
                            have hHeld : w16.cell? ⟨gb148, 0, none⟩ = some (.int .i64 a0_0) ∧ w16.cell? ⟨gb148, 1, none⟩ = some (.int .i64 a0_1) ∧ w16.cell? ⟨gb148, 2, none⟩ = some (.string a0_2) := hS_
                            refine norm_ (a' := ?_) ?_ ?_
                            rotate_left
                            · simp only [putAll, Act.put, List.setIfInBounds_toArray, List.set_cons_zero, List.set_cons_succ]
                              rfl
                            refine two_ (i := 2) (j := 14) (Ni := some 9) (Nj := some 21) #[true, true, true, false, true, true, true, true, false, false, true, true, true, true, false, false, true, true, false, false, false] #[true, true, false, false, true, true, true, true, false, false, true, true, true, true, true, false, true, true, false, false, false] rfl rfl rfl rfl (two_of HT_.out (by kernel_rfl)) (by decide) (by decide) (fun K hK => ?_) (fun K hK => ?_)
                            · skip
                              refine goes_ Try.func16 (by kernel_rfl) rfl #[.int .i64 a0_0] (by rfl) rfl rfl (by (try simp only [List.map_toArray, List.map_cons, List.map_nil]); first | done | rfl | (simp only [List.length_drop, List.length_take]; rfl)) ?_
                              with_reducible refine (ref01_Of.calls a0_0 t150 _ A4.out).mono ?_
                              rintro e w17 ⟨rfl, hb⟩
                              refine ⟨_, rfl, ?_⟩
                              have n0_ := Aside0.mk (Kd.R_below (by (with_reducible repeat (first | apply Kd.R_alloc | apply Kd.R_drewN | apply Kd.R_drew)); exact HO154.out) hb)
                              have n1_ := Aside0.mk (blk_below (g := gb148) (o := .cells #[.int .i64 a0_0, .int .i64 a0_1, .string a0_2] 23 (0, 0)) (by (with_reducible repeat (first | refine blk_drewN ?_ _ | refine blk_drew ?_ | refine blk_alloc ?_ _)); exact BK148.out) hb)
                              have n2_ := Aside0.mk (below_step (by repeat (first | (with_reducible first | exact HB.out | apply below_alloc | apply pw_below_drewN | apply below_drew1 | refine below_set ?_ GE148.out) | exact HB.out)) hb)
                              clear HO154
                              clear BK148
                              clear HB
                              have HO154 := n0_
                              have BK148 := n1_
                              have HB := n2_
                              clear n0_ n1_ n2_
                              (try clear hb)
                              (try clear hb2)
                              (try clear hk)
                              (try clear hi)
                              refine hK.out _ _ ⟨(blk_cell BK148.out 0).trans rfl, (blk_cell BK148.out 1).trans rfl, (blk_cell BK148.out 2).trans rfl⟩ (fun hHeld => ?_)
                              clear hK K
                              refine norm_ (a' := ?_) ?_ ?_
                              rotate_left
                              · show Act.put _ (some 9) _ = _
                                simp only [Act.put, List.setIfInBounds_toArray, List.set_cons_zero, List.set_cons_succ, i64_w, i32_w]
                                rfl
                              refine pure_ (i := 3) (N := some 10) (v := ?_) (a' := ?_) #[true, true, true, true, true, true, true, true, false, false, true, true, true, true, false, false, true, true, false, false, false] rfl rfl (any_of HT_.out (by kernel_rfl)) (fun _ _ _ h => h) (Or.inl ⟨by rfl, ?_⟩) ?_ ?_
                              rotate_left
                              · intro w'
                                go_simp
                                with_reducible rfl
                              rotate_left
                              · simp only [Act.put, List.setIfInBounds_toArray, List.set_cons_zero, List.set_cons_succ, i64_w, i32_w]
                                rfl
                              exact norm_ (by first | (simp only [putAll, Act.put, List.setIfInBounds_toArray, List.set_cons_zero, List.set_cons_succ]; done) | (simp only [putAll, Act.put, List.setIfInBounds_toArray, List.set_cons_zero, List.set_cons_succ]; rfl)) (hJ2_13 (v153) _ ⟨hHeld, (by (with_reducible repeat (first | apply Kd.R_alloc | apply Kd.R_drewN | apply Kd.R_drew)); exact HO154.out), (by (with_reducible repeat (first | refine blk_drewN ?_ _ | refine blk_drew ?_ | refine blk_alloc ?_ _)); exact BK148.out), (by repeat (first | (with_reducible first | exact HB.out | apply below_alloc | apply pw_below_drewN | apply below_drew1 | refine below_set ?_ GE148.out) | exact HB.out))⟩)
                            · skip
                              have hcv17 := own_string (P := Try.prog) Try.underlying37 Try.underlying5 Try.underlying9 (Kd.own_of_R HO154.out)
                              refine value_ (w1 := ?_) (v := ?_) (by rfl) rfl ?_ ?_
                              rotate_left 2
                              · go_simp
                                constructor
                                · rfl
                                · rfl
                              clear hcv17
                              refine hK.out _ _ ⟨(blk_cell BK148.out 0).trans rfl, (blk_cell BK148.out 1).trans rfl, (blk_cell BK148.out 2).trans rfl⟩ (fun hHeld => ?_)
                              clear hK K
                              refine norm_ (a' := ?_) ?_ ?_
                              rotate_left
                              · show Act.put _ (some 21) _ = _
                                simp only [Act.put, List.setIfInBounds_toArray, List.set_cons_zero, List.set_cons_succ, i64_w, i32_w]
                                rfl
                              exact norm_ (by first | (simp only [putAll, Act.put, List.setIfInBounds_toArray, List.set_cons_zero, List.set_cons_succ]; done) | (simp only [putAll, Act.put, List.setIfInBounds_toArray, List.set_cons_zero, List.set_cons_succ]; rfl)) (hJ13_14 (v153) _ ⟨hHeld, (by (with_reducible repeat (first | apply Kd.R_alloc | apply Kd.R_drewN | apply Kd.R_drew)); exact HO154.out), (by (with_reducible repeat (first | refine blk_drewN ?_ _ | refine blk_drew ?_ | refine blk_alloc ?_ _)); exact BK148.out), (by repeat (first | (with_reducible first | exact HB.out | apply below_alloc | apply pw_below_drewN | apply below_drew1 | refine below_set ?_ GE148.out) | exact HB.out))⟩)
                        · skip
                          rintro _ w15 ⟨hS_, h0_, h1_⟩
                          have n0_ : Aside0 (w15.heap[gb148]? = some (.cells #[.int .i64 a0_0, .int .i64 a0_1, .string a0_2] 23 (0, 0))) := ⟨h0_⟩
                          have n1_ : Aside0 (Below w.heap.size w w15) := ⟨h1_⟩
                          clear BK148
                          clear HB
                          clear h0_ h1_
                          have BK148 := n0_
                          have HB := n1_
                          clear n0_ n1_
                          have hHeld : w15.cell? ⟨gb148, 0, none⟩ = some (.int .i64 a0_0) ∧ w15.cell? ⟨gb148, 1, none⟩ = some (.int .i64 a0_1) ∧ w15.cell? ⟨gb148, 2, none⟩ = some (.string a0_2) := hS_
                          refine norm_ (a' := ?_) ?_ ?_
                          rotate_left
                          · simp only [putAll, Act.put, List.setIfInBounds_toArray, List.set_cons_zero, List.set_cons_succ]
                            rfl
                          refine two_ (i := 8) (j := 13) (Ni := some 15) (Nj := some 20) #[true, true, true, true, true, true, true, true, true, false, true, true, true, false, false, false, true, true, false, false, false] #[true, true, true, true, true, true, true, true, false, false, true, true, true, true, false, false, true, true, false, false, false] rfl rfl rfl rfl (two_of HT_.out (by kernel_rfl)) (by decide) (by decide) (fun K hK => ?_) (fun K hK => ?_)
                          · skip
                            refine goes_ Try.func16 (by kernel_rfl) rfl #[.int .i64 (wrap64 (1 + (a0_2.size : Int)))] (by rfl) rfl rfl (by (try simp only [List.map_toArray, List.map_cons, List.map_nil]); first | done | rfl | (simp only [List.length_drop, List.length_take]; rfl)) ?_
                            with_reducible refine (ref01_Of.calls (wrap64 (1 + (a0_2.size : Int))) t151 _ A6.out).mono ?_
                            rintro e w16 ⟨rfl, hb⟩
                            refine ⟨_, rfl, ?_⟩
                            have n0_ := Aside0.mk (blk_below (g := gb148) (o := .cells #[.int .i64 a0_0, .int .i64 a0_1, .string a0_2] 23 (0, 0)) (by (with_reducible repeat (first | refine blk_drewN ?_ _ | refine blk_drew ?_ | refine blk_alloc ?_ _)); exact BK148.out) hb)
                            have n1_ := Aside0.mk (below_step (by repeat (first | (with_reducible first | exact HB.out | apply below_alloc | apply pw_below_drewN | apply below_drew1 | refine below_set ?_ GE148.out) | exact HB.out)) hb)
                            clear BK148
                            clear HB
                            have BK148 := n0_
                            have HB := n1_
                            clear n0_ n1_
                            (try clear hb)
                            (try clear hb2)
                            (try clear hk)
                            (try clear hi)
                            refine hK.out _ _ ⟨(blk_cell BK148.out 0).trans rfl, (blk_cell BK148.out 1).trans rfl, (blk_cell BK148.out 2).trans rfl⟩ (fun hHeld => ?_)
                            clear hK K
                            refine norm_ (a' := ?_) ?_ ?_
                            rotate_left
                            · show Act.put _ (some 15) _ = _
                              simp only [Act.put, List.setIfInBounds_toArray, List.set_cons_zero, List.set_cons_succ, i64_w, i32_w]
                              rfl
                            refine pure_ (i := 9) (N := some 16) (v := ?_) (a' := ?_) #[true, true, true, true, true, true, true, true, true, true, true, true, true, false, false, false, true, true, false, false, false] rfl rfl (any_of HT_.out (by kernel_rfl)) (fun _ _ _ h => h) (Or.inl ⟨by rfl, ?_⟩) ?_ ?_
                            rotate_left
                            · intro w'
                              go_simp
                              with_reducible rfl
                            rotate_left
                            · simp only [Act.put, List.setIfInBounds_toArray, List.set_cons_zero, List.set_cons_succ, i64_w, i32_w]
                              rfl
                            exact norm_ (by first | (simp only [putAll, Act.put, List.setIfInBounds_toArray, List.set_cons_zero, List.set_cons_succ]; done) | (simp only [putAll, Act.put, List.setIfInBounds_toArray, List.set_cons_zero, List.set_cons_succ]; rfl)) (hJ2_8 () _ ⟨hHeld, (by (with_reducible repeat (first | refine blk_drewN ?_ _ | refine blk_drew ?_ | refine blk_alloc ?_ _)); exact BK148.out), (by repeat (first | (with_reducible first | exact HB.out | apply below_alloc | apply pw_below_drewN | apply below_drew1 | refine below_set ?_ GE148.out) | exact HB.out))⟩)
                          · skip
                            refine Kd.R_lit_step (Kd.int .u8) _ 5 ?hg (N := 20) ?hd (xs := ([(a0_1) % 256] : List Int)) (inner := [.int .u8 ((a0_1) % 256)]) (ok := fun _ => True) (okp := fun _ => True) ?hr ?hp (fun _ hk => hk) trivial (Below.refl _ _) (Nat.le_refl _) (by simp) ?_; (case hd => rfl); (case hg => rfl); (case hr => first | (go_simp; done) | (go_simp; rfl)); (case hp => exact (Reps.one (show Kd.M (Kd.int .u8) _ _ _ ((a0_1) % 256) [.int .u8 ((a0_1) % 256)] from rfl) (Reps.none _ _)))
                            intro v153 w16 ho17 hb hg_ hnew_
                            clear hg_ hnew_
                            (first | rw [← Ny152.out] at ho17 | (simp only [Int.reduceToNat] at ho17; rw [← Ny152.out] at ho17))
                            have n0_ := Aside0.mk (Kd.R_lower ho17 (below_size (by repeat (first | (with_reducible first | exact HB.out | apply below_alloc | apply pw_below_drewN | apply below_drew1 | refine below_set ?_ GE148.out) | exact HB.out))))
                            have n1_ := Aside0.mk (blk_below (g := gb148) (o := .cells #[.int .i64 a0_0, .int .i64 a0_1, .string a0_2] 23 (0, 0)) (by (with_reducible repeat (first | refine blk_drewN ?_ _ | refine blk_drew ?_ | refine blk_alloc ?_ _)); exact BK148.out) hb)
                            have n2_ := Aside0.mk (below_step (by repeat (first | (with_reducible first | exact HB.out | apply below_alloc | apply pw_below_drewN | apply below_drew1 | refine below_set ?_ GE148.out) | exact HB.out)) hb)
                            clear BK148
                            clear HB
                            have HO154 := n0_
                            have BK148 := n1_
                            have HB := n2_
                            clear n0_ n1_ n2_
                            clear hb ho17
                            refine hK.out _ _ ⟨(blk_cell BK148.out 0).trans rfl, (blk_cell BK148.out 1).trans rfl, (blk_cell BK148.out 2).trans rfl⟩ (fun hHeld => ?_)
                            clear hK K
                            refine norm_ (a' := ?_) ?_ ?_
                            rotate_left
                            · show Act.put _ (some 20) _ = _
                              simp only [Act.put, List.setIfInBounds_toArray, List.set_cons_zero, List.set_cons_succ, i64_w, i32_w]
                              rfl
                            exact norm_ (by first | (simp only [putAll, Act.put, List.setIfInBounds_toArray, List.set_cons_zero, List.set_cons_succ]; done) | (simp only [putAll, Act.put, List.setIfInBounds_toArray, List.set_cons_zero, List.set_cons_succ]; rfl)) (hJ2_13 (v153) _ ⟨hHeld, (by (with_reducible repeat (first | apply Kd.R_alloc | apply Kd.R_drewN | apply Kd.R_drew)); exact HO154.out), (by (with_reducible repeat (first | refine blk_drewN ?_ _ | refine blk_drew ?_ | refine blk_alloc ?_ _)); exact BK148.out), (by repeat (first | (with_reducible first | exact HB.out | apply below_alloc | apply pw_below_drewN | apply below_drew1 | refine below_set ?_ GE148.out) | exact HB.out))⟩)
                      · skip
                        rintro v153 w17 ⟨hS_, h0_, h1_, h2_⟩
                        have n0_ : Aside0 (Kd.R (Kd.int .u8) 5 w17 w.heap.size (fun _ => True) v153 y152) := ⟨h0_⟩
                        have n1_ : Aside0 (w17.heap[gb148]? = some (.cells #[.int .i64 a0_0, .int .i64 a0_1, .string a0_2] 23 (0, 0))) := ⟨h1_⟩
                        have n2_ : Aside0 (Below w.heap.size w w17) := ⟨h2_⟩
                        clear BK148
                        clear HB
                        clear h0_ h1_ h2_
                        have HO154 := n0_
                        have BK148 := n1_
                        have HB := n2_
                        clear n0_ n1_ n2_
                        have hHeld : w17.cell? ⟨gb148, 0, none⟩ = some (.int .i64 a0_0) ∧ w17.cell? ⟨gb148, 1, none⟩ = some (.int .i64 a0_1) ∧ w17.cell? ⟨gb148, 2, none⟩ = some (.string a0_2) := hS_
                        refine norm_ (a' := ?_) ?_ ?_
                        rotate_left
                        · simp only [putAll, Act.put, List.setIfInBounds_toArray, List.set_cons_zero, List.set_cons_succ]
                          rfl
                        refine one_ (i := 2) (N := some 9) #[true, true, true, false, true, true, true, true, false, false, true, true, true, true, true, false, true, true, false, false, false] rfl rfl (one_of HT_.out (by kernel_rfl)) (by decide) (fun K hK => ?_)
                        refine goes_ Try.func16 (by kernel_rfl) rfl #[.int .i64 a0_0] (by rfl) rfl rfl (by (try simp only [List.map_toArray, List.map_cons, List.map_nil]); first | done | rfl | (simp only [List.length_drop, List.length_take]; rfl)) ?_
                        with_reducible refine (ref01_Of.calls a0_0 t150 _ A4.out).mono ?_
                        rintro e w18 ⟨rfl, hb⟩
                        refine ⟨_, rfl, ?_⟩
                        have n0_ := Aside0.mk (Kd.R_below (by (with_reducible repeat (first | apply Kd.R_alloc | apply Kd.R_drewN | apply Kd.R_drew)); exact HO154.out) hb)
                        have n1_ := Aside0.mk (blk_below (g := gb148) (o := .cells #[.int .i64 a0_0, .int .i64 a0_1, .string a0_2] 23 (0, 0)) (by (with_reducible repeat (first | refine blk_drewN ?_ _ | refine blk_drew ?_ | refine blk_alloc ?_ _)); exact BK148.out) hb)
                        have n2_ := Aside0.mk (below_step (by repeat (first | (with_reducible first | exact HB.out | apply below_alloc | apply pw_below_drewN | apply below_drew1 | refine below_set ?_ GE148.out) | exact HB.out)) hb)
                        clear HO154
                        clear BK148
                        clear HB
                        have HO154 := n0_
                        have BK148 := n1_
                        have HB := n2_
                        clear n0_ n1_ n2_
                        (try clear hb)
                        (try clear hb2)
                        (try clear hk)
                        (try clear hi)
                        refine hK.out _ _ ⟨(blk_cell BK148.out 0).trans rfl, (blk_cell BK148.out 1).trans rfl, (blk_cell BK148.out 2).trans rfl⟩ (fun hHeld => ?_)
                        clear hK K
                        refine norm_ (a' := ?_) ?_ ?_
                        rotate_left
                        · show Act.put _ (some 9) _ = _
                          simp only [Act.put, List.setIfInBounds_toArray, List.set_cons_zero, List.set_cons_succ, i64_w, i32_w]
                          rfl
                        refine pure_ (i := 3) (N := some 10) (v := ?_) (a' := ?_) #[true, true, true, true, true, true, true, true, false, false, true, true, true, true, true, false, true, true, false, false, false] rfl rfl (any_of HT_.out (by kernel_rfl)) (fun _ _ _ h => h) (Or.inl ⟨by rfl, ?_⟩) ?_ ?_
                        rotate_left
                        · intro w'
                          go_simp
                          with_reducible rfl
                        rotate_left
                        · simp only [Act.put, List.setIfInBounds_toArray, List.set_cons_zero, List.set_cons_succ, i64_w, i32_w]
                          rfl
                        exact norm_ (by first | (simp only [putAll, Act.put, List.setIfInBounds_toArray, List.set_cons_zero, List.set_cons_succ]; done) | (simp only [putAll, Act.put, List.setIfInBounds_toArray, List.set_cons_zero, List.set_cons_succ]; rfl)) (hJ2_13_14 (v153) _ ⟨hHeld, (by (with_reducible repeat (first | apply Kd.R_alloc | apply Kd.R_drewN | apply Kd.R_drew)); exact HO154.out), (by (with_reducible repeat (first | refine blk_drewN ?_ _ | refine blk_drew ?_ | refine blk_alloc ?_ _)); exact BK148.out), (by repeat (first | (with_reducible first | exact HB.out | apply below_alloc | apply pw_below_drewN | apply below_drew1 | refine below_set ?_ GE148.out) | exact HB.out))⟩)
                    · skip
                      rintro v153 w17 ⟨hS_, h0_, h1_, h2_⟩
                      have n0_ : Aside0 (Kd.R (Kd.int .u8) 5 w17 w.heap.size (fun _ => True) v153 y152) := ⟨h0_⟩
                      have n1_ : Aside0 (w17.heap[gb148]? = some (.cells #[.int .i64 a0_0, .int .i64 a0_1, .string a0_2] 23 (0, 0))) := ⟨h1_⟩
                      have n2_ : Aside0 (Below w.heap.size w w17) := ⟨h2_⟩
                      clear BK148
                      clear HB
                      clear h0_ h1_ h2_
                      have HO154 := n0_
                      have BK148 := n1_
                      have HB := n2_
                      clear n0_ n1_ n2_
                      have hHeld : w17.cell? ⟨gb148, 0, none⟩ = some (.int .i64 a0_0) ∧ w17.cell? ⟨gb148, 1, none⟩ = some (.int .i64 a0_1) ∧ w17.cell? ⟨gb148, 2, none⟩ = some (.string a0_2) := hS_
                      refine norm_ (a' := ?_) ?_ ?_
                      rotate_left
                      · simp only [putAll, Act.put, List.setIfInBounds_toArray, List.set_cons_zero, List.set_cons_succ]
                        rfl
                      refine two_ (i := 8) (j := 14) (Ni := some 15) (Nj := some 21) #[true, true, true, true, true, true, true, true, true, false, true, true, true, true, false, false, true, true, false, false, false] #[true, true, true, true, true, true, true, true, false, false, true, true, true, true, true, false, true, true, false, false, false] rfl rfl rfl rfl (two_of HT_.out (by kernel_rfl)) (by decide) (by decide) (fun K hK => ?_) (fun K hK => ?_)
                      · skip
                        refine goes_ Try.func16 (by kernel_rfl) rfl #[.int .i64 (wrap64 (1 + (a0_2.size : Int)))] (by rfl) rfl rfl (by (try simp only [List.map_toArray, List.map_cons, List.map_nil]); first | done | rfl | (simp only [List.length_drop, List.length_take]; rfl)) ?_
                        with_reducible refine (ref01_Of.calls (wrap64 (1 + (a0_2.size : Int))) t151 _ A6.out).mono ?_
                        rintro e w18 ⟨rfl, hb⟩
                        refine ⟨_, rfl, ?_⟩
                        have n0_ := Aside0.mk (Kd.R_below (by (with_reducible repeat (first | apply Kd.R_alloc | apply Kd.R_drewN | apply Kd.R_drew)); exact HO154.out) hb)
                        have n1_ := Aside0.mk (blk_below (g := gb148) (o := .cells #[.int .i64 a0_0, .int .i64 a0_1, .string a0_2] 23 (0, 0)) (by (with_reducible repeat (first | refine blk_drewN ?_ _ | refine blk_drew ?_ | refine blk_alloc ?_ _)); exact BK148.out) hb)
                        have n2_ := Aside0.mk (below_step (by repeat (first | (with_reducible first | exact HB.out | apply below_alloc | apply pw_below_drewN | apply below_drew1 | refine below_set ?_ GE148.out) | exact HB.out)) hb)
                        clear HO154
                        clear BK148
                        clear HB
                        have HO154 := n0_
                        have BK148 := n1_
                        have HB := n2_
                        clear n0_ n1_ n2_
                        (try clear hb)
                        (try clear hb2)
                        (try clear hk)
                        (try clear hi)
                        refine hK.out _ _ ⟨(blk_cell BK148.out 0).trans rfl, (blk_cell BK148.out 1).trans rfl, (blk_cell BK148.out 2).trans rfl⟩ (fun hHeld => ?_)
                        clear hK K
                        refine norm_ (a' := ?_) ?_ ?_
                        rotate_left
                        · show Act.put _ (some 15) _ = _
                          simp only [Act.put, List.setIfInBounds_toArray, List.set_cons_zero, List.set_cons_succ, i64_w, i32_w]
                          rfl
                        refine pure_ (i := 9) (N := some 16) (v := ?_) (a' := ?_) #[true, true, true, true, true, true, true, true, true, true, true, true, true, true, false, false, true, true, false, false, false] rfl rfl (any_of HT_.out (by kernel_rfl)) (fun _ _ _ h => h) (Or.inl ⟨by rfl, ?_⟩) ?_ ?_
                        rotate_left
                        · intro w'
                          go_simp
                          with_reducible rfl
                        rotate_left
                        · simp only [Act.put, List.setIfInBounds_toArray, List.set_cons_zero, List.set_cons_succ, i64_w, i32_w]
                          rfl
                        exact norm_ (by first | (simp only [putAll, Act.put, List.setIfInBounds_toArray, List.set_cons_zero, List.set_cons_succ]; done) | (simp only [putAll, Act.put, List.setIfInBounds_toArray, List.set_cons_zero, List.set_cons_succ]; rfl)) (hJ2_8_13 (v153) _ ⟨hHeld, (by (with_reducible repeat (first | apply Kd.R_alloc | apply Kd.R_drewN | apply Kd.R_drew)); exact HO154.out), (by (with_reducible repeat (first | refine blk_drewN ?_ _ | refine blk_drew ?_ | refine blk_alloc ?_ _)); exact BK148.out), (by repeat (first | (with_reducible first | exact HB.out | apply below_alloc | apply pw_below_drewN | apply below_drew1 | refine below_set ?_ GE148.out) | exact HB.out))⟩)
                      · skip
                        have hcv18 := own_string (P := Try.prog) Try.underlying37 Try.underlying5 Try.underlying9 (Kd.own_of_R HO154.out)
                        refine value_ (w1 := ?_) (v := ?_) (by rfl) rfl ?_ ?_
                        rotate_left 2
                        · go_simp
                          constructor
                          · rfl
                          · rfl
                        clear hcv18
                        refine hK.out _ _ ⟨(blk_cell BK148.out 0).trans rfl, (blk_cell BK148.out 1).trans rfl, (blk_cell BK148.out 2).trans rfl⟩ (fun hHeld => ?_)
                        clear hK K
                        refine norm_ (a' := ?_) ?_ ?_
                        rotate_left
                        · show Act.put _ (some 21) _ = _
                          simp only [Act.put, List.setIfInBounds_toArray, List.set_cons_zero, List.set_cons_succ, i64_w, i32_w]
                          rfl
                        exact norm_ (by first | (simp only [putAll, Act.put, List.setIfInBounds_toArray, List.set_cons_zero, List.set_cons_succ]; done) | (simp only [putAll, Act.put, List.setIfInBounds_toArray, List.set_cons_zero, List.set_cons_succ]; rfl)) (hJ2_13_14 (v153) _ ⟨hHeld, (by (with_reducible repeat (first | apply Kd.R_alloc | apply Kd.R_drewN | apply Kd.R_drew)); exact HO154.out), (by (with_reducible repeat (first | refine blk_drewN ?_ _ | refine blk_drew ?_ | refine blk_alloc ?_ _)); exact BK148.out), (by repeat (first | (with_reducible first | exact HB.out | apply below_alloc | apply pw_below_drewN | apply below_drew1 | refine below_set ?_ GE148.out) | exact HB.out))⟩)
                  · skip
                    rintro _ w16 ⟨hS_, h0_, h1_⟩
                    have n0_ : Aside0 (w16.heap[gb148]? = some (.cells #[.int .i64 a0_0, .int .i64 a0_1, .string a0_2] 23 (0, 0))) := ⟨h0_⟩
                    have n1_ : Aside0 (Below w.heap.size w w16) := ⟨h1_⟩
                    clear BK148
                    clear HB
                    clear h0_ h1_
                    have BK148 := n0_
                    have HB := n1_
                    clear n0_ n1_
                    have hHeld : w16.cell? ⟨gb148, 0, none⟩ = some (.int .i64 a0_0) ∧ w16.cell? ⟨gb148, 1, none⟩ = some (.int .i64 a0_1) ∧ w16.cell? ⟨gb148, 2, none⟩ = some (.string a0_2) := hS_
                    refine norm_ (a' := ?_) ?_ ?_
                    rotate_left
                    · simp only [putAll, Act.put, List.setIfInBounds_toArray, List.set_cons_zero, List.set_cons_succ]
                      rfl
                    refine one_ (i := 13) (N := some 20) #[true, true, true, true, true, true, true, true, true, true, true, true, true, true, false, false, true, true, false, false, false] rfl rfl (one_of HT_.out (by kernel_rfl)) (by decide) (fun K hK => ?_)
                    refine Kd.R_lit_step (Kd.int .u8) _ 5 ?hg (N := 20) ?hd (xs := ([(a0_1) % 256] : List Int)) (inner := [.int .u8 ((a0_1) % 256)]) (ok := fun _ => True) (okp := fun _ => True) ?hr ?hp (fun _ hk => hk) trivial (Below.refl _ _) (Nat.le_refl _) (by simp) ?_; (case hd => rfl); (case hg => rfl); (case hr => first | (go_simp; done) | (go_simp; rfl)); (case hp => exact (Reps.one (show Kd.M (Kd.int .u8) _ _ _ ((a0_1) % 256) [.int .u8 ((a0_1) % 256)] from rfl) (Reps.none _ _)))
                    intro v153 w17 ho18 hb hg_ hnew_
                    clear hg_ hnew_
                    (first | rw [← Ny152.out] at ho18 | (simp only [Int.reduceToNat] at ho18; rw [← Ny152.out] at ho18))
                    have n0_ := Aside0.mk (Kd.R_lower ho18 (below_size (by repeat (first | (with_reducible first | exact HB.out | apply below_alloc | apply pw_below_drewN | apply below_drew1 | refine below_set ?_ GE148.out) | exact HB.out))))
                    have n1_ := Aside0.mk (blk_below (g := gb148) (o := .cells #[.int .i64 a0_0, .int .i64 a0_1, .string a0_2] 23 (0, 0)) (by (with_reducible repeat (first | refine blk_drewN ?_ _ | refine blk_drew ?_ | refine blk_alloc ?_ _)); exact BK148.out) hb)
                    have n2_ := Aside0.mk (below_step (by repeat (first | (with_reducible first | exact HB.out | apply below_alloc | apply pw_below_drewN | apply below_drew1 | refine below_set ?_ GE148.out) | exact HB.out)) hb)
                    clear BK148
                    clear HB
                    have HO154 := n0_
                    have BK148 := n1_
                    have HB := n2_
                    clear n0_ n1_ n2_
                    clear hb ho18
                    refine hK.out _ _ ⟨(blk_cell BK148.out 0).trans rfl, (blk_cell BK148.out 1).trans rfl, (blk_cell BK148.out 2).trans rfl⟩ (fun hHeld => ?_)
                    clear hK K
                    refine norm_ (a' := ?_) ?_ ?_
                    rotate_left
                    · show Act.put _ (some 20) _ = _
                      simp only [Act.put, List.setIfInBounds_toArray, List.set_cons_zero, List.set_cons_succ, i64_w, i32_w]
                      rfl
                    exact norm_ (by first | (simp only [putAll, Act.put, List.setIfInBounds_toArray, List.set_cons_zero, List.set_cons_succ]; done) | (simp only [putAll, Act.put, List.setIfInBounds_toArray, List.set_cons_zero, List.set_cons_succ]; rfl)) (hJ2_8_13 (v153) _ ⟨hHeld, (by (with_reducible repeat (first | apply Kd.R_alloc | apply Kd.R_drewN | apply Kd.R_drew)); exact HO154.out), (by (with_reducible repeat (first | refine blk_drewN ?_ _ | refine blk_drew ?_ | refine blk_alloc ?_ _)); exact BK148.out), (by repeat (first | (with_reducible first | exact HB.out | apply below_alloc | apply pw_below_drewN | apply below_drew1 | refine below_set ?_ GE148.out) | exact HB.out))⟩)
                · skip
                  rintro v153 w18 ⟨hS_, h0_, h1_, h2_⟩
                  have n0_ : Aside0 (Kd.R (Kd.int .u8) 5 w18 w.heap.size (fun _ => True) v153 y152) := ⟨h0_⟩
                  have n1_ : Aside0 (w18.heap[gb148]? = some (.cells #[.int .i64 a0_0, .int .i64 a0_1, .string a0_2] 23 (0, 0))) := ⟨h1_⟩
                  have n2_ : Aside0 (Below w.heap.size w w18) := ⟨h2_⟩
                  clear BK148
                  clear HB
                  clear h0_ h1_ h2_
                  have HO154 := n0_
                  have BK148 := n1_
                  have HB := n2_
                  clear n0_ n1_ n2_
                  have hHeld : w18.cell? ⟨gb148, 0, none⟩ = some (.int .i64 a0_0) ∧ w18.cell? ⟨gb148, 1, none⟩ = some (.int .i64 a0_1) ∧ w18.cell? ⟨gb148, 2, none⟩ = some (.string a0_2) := hS_
                  refine norm_ (a' := ?_) ?_ ?_
                  rotate_left
                  · simp only [putAll, Act.put, List.setIfInBounds_toArray, List.set_cons_zero, List.set_cons_succ]
                    rfl
                  refine one_ (i := 8) (N := some 15) #[true, true, true, true, true, true, true, true, true, false, true, true, true, true, true, false, true, true, false, false, false] rfl rfl (one_of HT_.out (by kernel_rfl)) (by decide) (fun K hK => ?_)
                  refine goes_ Try.func16 (by kernel_rfl) rfl #[.int .i64 (wrap64 (1 + (a0_2.size : Int)))] (by rfl) rfl rfl (by (try simp only [List.map_toArray, List.map_cons, List.map_nil]); first | done | rfl | (simp only [List.length_drop, List.length_take]; rfl)) ?_
                  with_reducible refine (ref01_Of.calls (wrap64 (1 + (a0_2.size : Int))) t151 _ A6.out).mono ?_
                  rintro e w19 ⟨rfl, hb⟩
                  refine ⟨_, rfl, ?_⟩
                  have n0_ := Aside0.mk (Kd.R_below (by (with_reducible repeat (first | apply Kd.R_alloc | apply Kd.R_drewN | apply Kd.R_drew)); exact HO154.out) hb)
                  have n1_ := Aside0.mk (blk_below (g := gb148) (o := .cells #[.int .i64 a0_0, .int .i64 a0_1, .string a0_2] 23 (0, 0)) (by (with_reducible repeat (first | refine blk_drewN ?_ _ | refine blk_drew ?_ | refine blk_alloc ?_ _)); exact BK148.out) hb)
                  have n2_ := Aside0.mk (below_step (by repeat (first | (with_reducible first | exact HB.out | apply below_alloc | apply pw_below_drewN | apply below_drew1 | refine below_set ?_ GE148.out) | exact HB.out)) hb)
                  clear HO154
                  clear BK148
                  clear HB
                  have HO154 := n0_
                  have BK148 := n1_
                  have HB := n2_
                  clear n0_ n1_ n2_
                  (try clear hb)
                  (try clear hb2)
                  (try clear hk)
                  (try clear hi)
                  refine hK.out _ _ ⟨(blk_cell BK148.out 0).trans rfl, (blk_cell BK148.out 1).trans rfl, (blk_cell BK148.out 2).trans rfl⟩ (fun hHeld => ?_)
                  clear hK K
                  refine norm_ (a' := ?_) ?_ ?_
                  rotate_left
                  · show Act.put _ (some 15) _ = _
                    simp only [Act.put, List.setIfInBounds_toArray, List.set_cons_zero, List.set_cons_succ, i64_w, i32_w]
                    rfl
                  refine pure_ (i := 9) (N := some 16) (v := ?_) (a' := ?_) #[true, true, true, true, true, true, true, true, true, true, true, true, true, true, true, false, true, true, false, false, false] rfl rfl (any_of HT_.out (by kernel_rfl)) (fun _ _ _ h => h) (Or.inl ⟨by rfl, ?_⟩) ?_ ?_
                  rotate_left
                  · intro w'
                    go_simp
                    with_reducible rfl
                  rotate_left
                  · simp only [Act.put, List.setIfInBounds_toArray, List.set_cons_zero, List.set_cons_succ, i64_w, i32_w]
                    rfl
                  exact norm_ (by first | (simp only [putAll, Act.put, List.setIfInBounds_toArray, List.set_cons_zero, List.set_cons_succ]; done) | (simp only [putAll, Act.put, List.setIfInBounds_toArray, List.set_cons_zero, List.set_cons_succ]; rfl)) (hJ2_8_13_14 (v153) _ ⟨hHeld, (by (with_reducible repeat (first | apply Kd.R_alloc | apply Kd.R_drewN | apply Kd.R_drew)); exact HO154.out), (by (with_reducible repeat (first | refine blk_drewN ?_ _ | refine blk_drew ?_ | refine blk_alloc ?_ _)); exact BK148.out), (by repeat (first | (with_reducible first | exact HB.out | apply below_alloc | apply pw_below_drewN | apply below_drew1 | refine below_set ?_ GE148.out) | exact HB.out))⟩)
              · skip
                rintro v153 w18 ⟨hS_, h0_, h1_, h2_⟩
                have n0_ : Aside0 (Kd.R (Kd.int .u8) 5 w18 w.heap.size (fun _ => True) v153 y152) := ⟨h0_⟩
                have n1_ : Aside0 (w18.heap[gb148]? = some (.cells #[.int .i64 a0_0, .int .i64 a0_1, .string a0_2] 23 (0, 0))) := ⟨h1_⟩
                have n2_ : Aside0 (Below w.heap.size w w18) := ⟨h2_⟩
                clear BK148
                clear HB
                clear h0_ h1_ h2_
                have HO154 := n0_
                have BK148 := n1_
                have HB := n2_
                clear n0_ n1_ n2_
                have hHeld : w18.cell? ⟨gb148, 0, none⟩ = some (.int .i64 a0_0) ∧ w18.cell? ⟨gb148, 1, none⟩ = some (.int .i64 a0_1) ∧ w18.cell? ⟨gb148, 2, none⟩ = some (.string a0_2) := hS_
                refine norm_ (a' := ?_) ?_ ?_
                rotate_left
                · simp only [putAll, Act.put, List.setIfInBounds_toArray, List.set_cons_zero, List.set_cons_succ]
                  rfl
                refine one_ (i := 14) (N := some 21) #[true, true, true, true, true, true, true, true, true, true, true, true, true, true, true, false, true, true, false, false, false] rfl rfl (one_of HT_.out (by kernel_rfl)) (by decide) (fun K hK => ?_)
                have hcv19 := own_string (P := Try.prog) Try.underlying37 Try.underlying5 Try.underlying9 (Kd.own_of_R HO154.out)
                refine value_ (w1 := ?_) (v := ?_) (by rfl) rfl ?_ ?_
                rotate_left 2
                · go_simp
                  constructor
                  · rfl
                  · rfl
                clear hcv19
                refine hK.out _ _ ⟨(blk_cell BK148.out 0).trans rfl, (blk_cell BK148.out 1).trans rfl, (blk_cell BK148.out 2).trans rfl⟩ (fun hHeld => ?_)
                clear hK K
                refine norm_ (a' := ?_) ?_ ?_
                rotate_left
                · show Act.put _ (some 21) _ = _
                  simp only [Act.put, List.setIfInBounds_toArray, List.set_cons_zero, List.set_cons_succ, i64_w, i32_w]
                  rfl
                exact norm_ (by first | (simp only [putAll, Act.put, List.setIfInBounds_toArray, List.set_cons_zero, List.set_cons_succ]; done) | (simp only [putAll, Act.put, List.setIfInBounds_toArray, List.set_cons_zero, List.set_cons_succ]; rfl)) (hJ2_8_13_14 (v153) _ ⟨hHeld, (by (with_reducible repeat (first | apply Kd.R_alloc | apply Kd.R_drewN | apply Kd.R_drew)); exact HO154.out), (by (with_reducible repeat (first | refine blk_drewN ?_ _ | refine blk_drew ?_ | refine blk_alloc ?_ _)); exact BK148.out), (by repeat (first | (with_reducible first | exact HB.out | apply below_alloc | apply pw_below_drewN | apply below_drew1 | refine below_set ?_ GE148.out) | exact HB.out))⟩)
            rintro v153 w19 ⟨hS_, h0_, h1_, h2_⟩
            have n0_ : Aside0 (Kd.R (Kd.int .u8) 5 w19 w.heap.size (fun _ => True) v153 y152) := ⟨h0_⟩
            have n1_ : Aside0 (w19.heap[gb148]? = some (.cells #[.int .i64 a0_0, .int .i64 a0_1, .string a0_2] 23 (0, 0))) := ⟨h1_⟩
            have n2_ : Aside0 (Below w.heap.size w w19) := ⟨h2_⟩
            clear BK148
            clear HB
            clear h0_ h1_ h2_
            have HO154 := n0_
            have BK148 := n1_
            have HB := n2_
            clear n0_ n1_ n2_
            have hHeld : w19.cell? ⟨gb148, 0, none⟩ = some (.int .i64 a0_0) ∧ w19.cell? ⟨gb148, 1, none⟩ = some (.int .i64 a0_1) ∧ w19.cell? ⟨gb148, 2, none⟩ = some (.string a0_2) := hS_
            refine norm_ (a' := ?_) ?_ ?_
            rotate_left
            · simp only [putAll, Act.put, List.setIfInBounds_toArray, List.set_cons_zero, List.set_cons_succ]
              rfl
            refine pure_ (i := 15) (N := some 22) (v := ?_) (a' := ?_) #[true, true, true, true, true, true, true, true, true, true, true, true, true, true, true, true, true, true, false, false, false] rfl rfl (any_of HT_.out (by kernel_rfl)) (fun _ _ _ h => h) (Or.inl ⟨by rfl, ?_⟩) ?_ ?_
            rotate_left
            · intro w'
              go_simp
              with_reducible rfl
            rotate_left
            · simp only [Act.put, List.setIfInBounds_toArray, List.set_cons_zero, List.set_cons_succ, i64_w, i32_w]
              rfl
            refine pure_ (i := 18) (N := some 25) (v := ?_) (a' := ?_) #[true, true, true, true, true, true, true, true, true, true, true, true, true, true, true, true, true, true, true, false, false] rfl rfl (any_of HT_.out (by kernel_rfl)) (fun _ _ _ h => h) (Or.inl ⟨by rfl, ?_⟩) ?_ ?_
            rotate_left
            · intro w'
              go_simp
              with_reducible rfl
            rotate_left
            · simp only [Act.put, List.setIfInBounds_toArray, List.set_cons_zero, List.set_cons_succ, i64_w, i32_w]
              rfl
            refine pure_ (i := 19) (N := some 2) (v := ?_) (a' := ?_) #[true, true, true, true, true, true, true, true, true, true, true, true, true, true, true, true, true, true, true, true, false] rfl rfl (any_of HT_.out (by kernel_rfl)) (fun _ _ _ h => h) (Or.inl ⟨by rfl, ?_⟩) ?_ ?_
            rotate_left
            · intro w'
              go_simp
              with_reducible rfl
            rotate_left
            · simp only [Act.put, List.setIfInBounds_toArray, List.set_cons_zero, List.set_cons_succ, i64_w, i32_w]
              rfl
            refine pure_ (i := 20) (N := some 3) (v := ?_) (a' := ?_) #[true, true, true, true, true, true, true, true, true, true, true, true, true, true, true, true, true, true, true, true, true] rfl rfl (any_of HT_.out (by kernel_rfl)) (fun _ _ _ h => h) (Or.inl ⟨by rfl, ?_⟩) ?_ ?_
            rotate_left
            · intro w'
              go_simp
              with_reducible rfl
            rotate_left
            · simp only [Act.put, List.setIfInBounds_toArray, List.set_cons_zero, List.set_cons_succ, i64_w, i32_w]
              rfl
            refine done_ (done_of HT_.out (by kernel_rfl)) ?_
            try go_wp2
            go_ret2
            exact ⟨by first | rfl | (simp [errW_none, errW_some] <;> rfl) | (simp [*, errW_none, errW_some] <;> rfl), by repeat (first | (with_reducible first | exact HB.out | apply below_alloc | apply pw_below_drewN | apply below_drew1 | refine below_set ?_ GE148.out) | exact HB.out)⟩
          · rw [if_neg c9] at H
            exact absurd H (by simp)
        · rw [if_neg c8] at H
          exact absurd H (by simp)
      · rw [if_neg c7] at H
        exact absurd H (by simp)
    · rw [if_neg c5] at H
      exact absurd H (by simp)
  · replace c3 := Bool.eq_false_iff.mpr c3
    subst c3
    have H1 : (some ((⟨#[]⟩ : ByteArray), false)) = some (r1, r2) := by rw [if_neg (show ¬ (false = true) by decide)] at H; exact H
    clear H
    have H := H1
    clear H1
    simp only [Option.some.injEq, Prod.mk.injEq] at H
    obtain ⟨rfl, rfl⟩ := H
    go_enter Try.func8, Try.ntmps8
    go_wp2_with (first | ((with_reducible refine gate_dst (N := 1) rfl ?_); refine box_event ?hg (N := 1) ?hd (cs := #[.int .i64 a0_0, .int .i64 a0_1, .string a0_2]) (t := 23) ?hr ?_; (case hd => rfl); (case hg => rfl); (case hr => first | (go_simp; done) | (go_simp; rfl)); intro gb148 hg w20 hbox hb; have n0_ := Aside0.mk (below_step (by repeat (first | (with_reducible first | exact HB.out | apply below_alloc | apply pw_below_drewN | apply below_drew1) | exact HB.out)) hb); have n1_ := Aside0.mk (hbox); have n2_ := Aside0.mk ((by rw [hg]; exact (below_size (by repeat (first | (with_reducible first | exact HB.out | apply below_alloc | apply pw_below_drewN | apply below_drew1) | exact HB.out))) : w.heap.size ≤ gb148)); have n3_ := Aside0.mk ((by rw [hg]; exact (below_size (by repeat (first | (with_reducible first | exact HB.out | apply below_alloc | apply pw_below_drewN | apply below_drew1) | exact HB.out))) : w.heap.size ≤ gb148)); clear HB; have HB := n0_; have BK148 := n1_; have GW148 := n2_; have GE148 := n3_; clear n0_ n1_ n2_ n3_; clear hb hbox hg; have hcz21_0 : w20.cell? ⟨gb148, 0, none⟩ = some (.int .i64 a0_0) := (blk_cell BK148.out 0).trans rfl; have hcz21_1 : w20.cell? ⟨gb148, 1, none⟩ = some (.int .i64 a0_1) := (blk_cell BK148.out 1).trans rfl; have hcz21_2 : w20.cell? ⟨gb148, 2, none⟩ = some (.string a0_2) := (blk_cell BK148.out 2).trans rfl; have hfz21_0 := blk_frozen BK148.out 0; have hfz21_1 := blk_frozen BK148.out 1; have hfz21_2 := blk_frozen BK148.out 2) | ((with_reducible refine gate_callee (f := 14) rfl ?_); refine goesL_ (some 5) rfl rfl Try.func14 (by kernel_rfl) rfl #[.agg #[.int .i64 a0_0, .int .i64 a0_1, .string a0_2]] rfl (by (try simp only [List.map_toArray, List.map_cons, List.map_nil]); first | done | rfl | (simp only [List.length_drop, List.length_take]; rfl)) ?_; (with_reducible refine (ref08_Right.calls a0_0 a0_1 a0_2 false _ A2.out).mono ?_); rintro e w22 ⟨rfl, hb⟩; refine ⟨_, rfl, ?_⟩; have n0_ := Aside0.mk (blk_below (g := gb148) (o := .cells #[.int .i64 a0_0, .int .i64 a0_1, .string a0_2] 23 (0, 0)) (by (with_reducible repeat (first | refine blk_drewN ?_ _ | refine blk_drew ?_ | refine blk_alloc ?_ _)); exact BK148.out) hb); have n1_ := Aside0.mk (below_step (by repeat (first | (with_reducible first | exact HB.out | apply below_alloc | apply pw_below_drewN | apply below_drew1 | refine below_set ?_ GE148.out) | exact HB.out)) hb); clear BK148; clear HB; have BK148 := n0_; have HB := n1_; clear n0_ n1_; (try clear hb); (try clear hb2); (try clear hk); (try clear hi)))
    go_ret2
    exact ⟨by first | rfl | (simp [errW_none, errW_some] <;> rfl) | (simp [*, errW_none, errW_some] <;> rfl), by repeat (first | (with_reducible first | exact HB.out | apply below_alloc | apply pw_below_drewN | apply below_drew1 | refine below_set ?_ GE148.out) | exact HB.out)⟩

/-! ### ref01_Get: function 21 -/
def ref01_Get.f (a0 : ByteArray) (a1 : Int) : Option (Int × Bool) := if a1 < 0 then (some (0, false)) else (if a1 ≥ (a0.size : Int) then (some (0, false)) else (if (wrap64 ((a0.size : Int) - a1)) < 2 then (some (0, false)) else (if 0 ≤ a1 then (if a1 < (a0.size : Int) then (if 0 ≤ (wrap64 (a1 + 1)) then (if (wrap64 (a1 + 1)) < (a0.size : Int) then (some (wrap64 ((wrap64 (256 * (wrap64 (bt a0 a1)))) + (wrap64 (bt a0 (wrap64 (a1 + 1))))), true)) else (none)) else (none)) else (none)) else (none))))
set_option maxHeartbeats 8000000 in
set_option maxRecDepth 100000 in
theorem ref01_Get.calls (a0 : ByteArray) (a1 : Int) (r1 : Int) (r2 : Bool) (w : World) (h : ref01_Get.f a0 a1 = some (r1, r2)) :
    Calls Try.prog 21 #[.string a0, .int .i64 a1] w fun e w' => e = .returned (.tuple #[.int .i64 r1, .bool r2]) ∧ Drawn0 w w' := by
  have H : (if a1 < 0 then (some (0, false)) else (if a1 ≥ (a0.size : Int) then (some (0, false)) else (if (wrap64 ((a0.size : Int) - a1)) < 2 then (some (0, false)) else (if 0 ≤ a1 then (if a1 < (a0.size : Int) then (if 0 ≤ (wrap64 (a1 + 1)) then (if (wrap64 (a1 + 1)) < (a0.size : Int) then (some (wrap64 ((wrap64 (256 * (wrap64 (bt a0 a1)))) + (wrap64 (bt a0 (wrap64 (a1 + 1))))), true)) else (none)) else (none)) else (none)) else (none))))) = some (r1, r2) := h
  clear h
  by_cases c3 : a1 < 0
  · rw [if_pos c3] at H
    have c3b0 : decide (a1 < 0) = true := decide_eq_true c3
    clear c3
    simp only [Option.some.injEq, Prod.mk.injEq] at H
    obtain ⟨rfl, rfl⟩ := H
    go_enter Try.func21, Try.ntmps21
    go_wp2
    repeat (go_quiet (fail); try go_wp2)
    go_ret2
    exact ⟨by first | rfl | (simp; done) | (simp [*]; done), by repeat (first | exact Drawn0.refl _ | apply Drawn0.step)⟩
  · rw [if_neg c3] at H
    have c3b0 : decide (a1 < 0) = false := decide_eq_false c3
    clear c3
    by_cases c4 : a1 ≥ (a0.size : Int)
    · rw [if_pos c4] at H
      have c4b0 : decide ((a0.size : Int) ≤ a1) = true := decide_eq_true c4
      clear c4
      simp only [Option.some.injEq, Prod.mk.injEq] at H
      obtain ⟨rfl, rfl⟩ := H
      go_enter Try.func21, Try.ntmps21
      go_wp2
      repeat (go_quiet (fail); try go_wp2)
      go_ret2
      exact ⟨by first | rfl | (simp; done) | (simp [*]; done), by repeat (first | exact Drawn0.refl _ | apply Drawn0.step)⟩
    · rw [if_neg c4] at H
      have c4b0 : decide ((a0.size : Int) ≤ a1) = false := decide_eq_false c4
      clear c4
      by_cases c5 : (wrap64 ((a0.size : Int) - a1)) < 2
      · rw [if_pos c5] at H
        have c5b0 : decide ((wrap64 ((a0.size : Int) - a1)) < 2) = true := decide_eq_true c5
        clear c5
        simp only [Option.some.injEq, Prod.mk.injEq] at H
        obtain ⟨rfl, rfl⟩ := H
        go_enter Try.func21, Try.ntmps21
        go_wp2
        repeat (go_quiet (fail); try go_wp2)
        go_ret2
        exact ⟨by first | rfl | (simp; done) | (simp [*]; done), by repeat (first | exact Drawn0.refl _ | apply Drawn0.step)⟩
      · rw [if_neg c5] at H
        have c5b0 : decide ((wrap64 ((a0.size : Int) - a1)) < 2) = false := decide_eq_false c5
        clear c5
        by_cases c6 : 0 ≤ a1
        · rw [if_pos c6] at H
          have c6b0 : decide (0 ≤ a1) = true := decide_eq_true c6
          clear c6
          by_cases c7 : a1 < (a0.size : Int)
          · rw [if_pos c7] at H
            have c7b0 : decide (a1 < (a0.size : Int)) = true := decide_eq_true c7
            clear c7
            obtain ⟨ji9, hji9⟩ : ∃ j_ : Int, (wrap64 (a1 + 1)) = j_ := ⟨_, rfl⟩
            replace H : (if 0 ≤ (ji9) then (if (ji9) < (a0.size : Int) then (some (wrap64 ((wrap64 (256 * (wrap64 (bt a0 a1)))) + (wrap64 (bt a0 (ji9)))), true)) else (none)) else (none)) = some (r1, r2) := by first | (rw [hji9] at H; exact H) | (simp only [hji9] at H ⊢; exact H)
            have hji9w : (IntKind.i64.wrap (a1 + 1)) = ji9 := (i64_w _).trans hji9
            by_cases c10 : 0 ≤ (ji9)
            · rw [if_pos c10] at H
              have c10b0 : decide (0 ≤ (ji9)) = true := decide_eq_true c10
              clear c10
              by_cases c11 : (ji9) < (a0.size : Int)
              · rw [if_pos c11] at H
                have c11b0 : decide ((ji9) < (a0.size : Int)) = true := decide_eq_true c11
                clear c11
                simp only [Option.some.injEq, Prod.mk.injEq] at H
                obtain ⟨rfl, rfl⟩ := H
                have p8 : 0 ≤ (a1 : Int) := of_decide_eq_true (by first | (with_reducible assumption) | assumption)
                have q8 : a1 < (a0.size : Int) := of_decide_eq_true (by first | (with_reducible assumption) | assumption)
                have hx8 := bt_at a0 a1
                replace p8 := eq_true p8
                replace q8 := eq_true q8
                have p12 : 0 ≤ ((ji9) : Int) := of_decide_eq_true (by first | (with_reducible assumption) | assumption)
                have q12 : (ji9) < (a0.size : Int) := of_decide_eq_true (by first | (with_reducible assumption) | assumption)
                have hx12 := bt_at a0 (ji9)
                replace p12 := eq_true p12
                replace q12 := eq_true q12
                go_enter Try.func21, Try.ntmps21
                go_wp2
                repeat (go_quiet (fail); try go_wp2)
                go_ret2
                exact ⟨by first | rfl | (simp; done) | (simp only [← hji9] <;> (first | rfl | simp)) | (simp [*]; done), by repeat (first | exact Drawn0.refl _ | apply Drawn0.step)⟩
              · rw [if_neg c11] at H
                exact absurd H (by simp)
            · rw [if_neg c10] at H
              exact absurd H (by simp)
          · rw [if_neg c7] at H
            exact absurd H (by simp)
        · rw [if_neg c6] at H
          exact absurd H (by simp)

/-! ### ref01_At: function 18 -/
def ref01_At.f (a0 : ByteArray) (a1 : Int) : Option (Int) := (ref01_Get.f a0 a1).bind fun bt155 => (some bt155.1)
set_option maxHeartbeats 8000000 in
set_option maxRecDepth 100000 in
theorem ref01_At.calls (a0 : ByteArray) (a1 : Int) (r : Int) (w : World) (h : ref01_At.f a0 a1 = some r) :
    Calls Try.prog 18 #[.string a0, .int .i64 a1] w fun e w' => e = .returned (.int .i64 r) ∧ Drawn0 w w' := by
  have H : ((ref01_Get.f a0 a1).bind fun bt155 => (some bt155.1)) = some r := h
  clear h
  replace H := Option.bind_eq_some_iff.mp H
  obtain ⟨⟨t155, t156⟩, A30, H⟩ := H
  replace H : (some t155) = some r := H
  have A3 := Aside0.mk A30
  clear A30
  obtain rfl := Option.some.inj H
  go_enter Try.func18, Try.ntmps18
  go_wp2_with (first | ((with_reducible refine gate_callee (f := 21) rfl ?_); refine goesL_ (some 10) rfl rfl Try.func21 (by kernel_rfl) rfl #[.string a0, .int .i64 a1] rfl (by (try simp only [List.map_toArray, List.map_cons, List.map_nil]); first | done | rfl | (simp only [List.length_drop, List.length_take]; rfl)) ?_; (with_reducible refine (ref01_Get.calls a0 a1 t155 t156 _ A3.out).mono ?_); rintro e w' ⟨rfl, ⟨nd, rfl⟩⟩; refine ⟨_, rfl, ?_⟩))
  go_ret
  exact ⟨by first | rfl | (simp; done) | (simp [*]; done), by repeat (first | exact Drawn0.refl _ | apply Drawn0.step)⟩

end Go.Proofs.Ytonhlaodpbjfcaa.P

-- Written by a program of this session (wip/mkprint.py). Not trusted: Lean checks it.
import Derived.Test.YtnmloapejbnejaaP0
import Derived.Test.YtnmloapejbnejaaP1
import Derived.Test.YtnmloapejbnejaaP2
import Derived.Test.YtnmloapejbnejaaHandPendRight
namespace Go.Proofs.Ytnmloapejbnejaa.P
open Go.RowKit Go.Proofs.YtnmloapejbnejaaW.PrintWords Go.Proofs.YtnmloapejbnejaaW.PrintLast Go.Proofs.YtnmloapejbnejaaW.PrintMore
attribute [local go_sem] max2_int min2_int max_two min_two max_three min_three max_four min_four   -- for this text's walks alone
set_option linter.unusedVariables false
set_option linter.unusedSimpArgs false

/-! ### pend_Drop: function 12 -/
def pend_Drop.f (l0 : List (S32)) (a1 : Int) : Option ((List (S32))) := if a1 < 0 then (some l0) else (if a1 ≥ (l0.length : Int) then (some l0) else (if 0 ≤ a1 then (if a1 ≤ (l0.length : Int) then ((some (l0.take (a1 : Int).toNat : List (S32))).bind fun y202 => (if 0 ≤ (wrap64 (a1 + 1)) then (if (wrap64 (a1 + 1)) ≤ (l0.length : Int) then ((some (l0.drop ((wrap64 (a1 + 1)) : Int).toNat : List (S32))).bind fun y207 => (if y202.length + y207.length < 1256584717458 then (some (y202 ++ y207)) else (none))) else (none)) else (none))) else (none)) else (none)))
def pend_Drop.T3 : Bool × List (List Nat × List Nat) := (true, [([], []), ([], []), ([], []), ([0, 1, 2], [0, 1, 2]), ([], []), ([], []), ([5], [5]), ([4, 6], [4, 6]), ([3, 7], [3, 7]), ([8, 8, 0, 1, 2, 3, 4, 5, 6, 7, 8], [8])])
def pend_Drop.B3 : List Nat := [0, 0, 0, 7, 0, 0, 32, 112, 255, 511]
theorem pend_Drop.tab3 : rtab .any (opsOf Try.f12 3) = pend_Drop.T3 := by kernel_rfl
theorem pend_Drop.bits3 : waitsOk pend_Drop.T3.2 pend_Drop.B3 = true := by kernel_rfl
set_option maxHeartbeats 8000000 in
set_option maxRecDepth 100000 in
theorem pend_Drop.calls (P0_ : Nat → Prop) (A0 : Option Addr) (c0 : Nat) (l0 : List (S32)) (a1 : Int) (r : List (S32)) (w : World) (hs0 : Kd.V k32 32 w w.heap.size (fun k_ => P0_ k_) (.slice A0 l0.length c0) l0) (h : pend_Drop.f l0 a1 = some r) :
 Calls Try.prog 12 #[.slice A0 l0.length c0, .int .i64 a1] w fun e w' => ∃ v0_ : Value, e = .returned (v0_) ∧ Kd.V k32 32 w' w.heap.size (fun k_ => (P0_ k_ ∨ w.heap.size ≤ k_)) v0_ r ∧ Below w.heap.size w w' := by
 have HO0 := Aside0.mk (show Kd.V k32 32 w w.heap.size (fun k_ => (P0_ k_ ∨ w.heap.size ≤ k_)) (.slice A0 l0.length c0) l0 from Kd.V_mono hs0 (fun k_ hk => .inl hk))
 have HB := Aside0.mk (Below.refl w.heap.size w)
 have H : (if a1 < 0 then (some l0) else (if a1 ≥ (l0.length : Int) then (some l0) else (if 0 ≤ a1 then (if a1 ≤ (l0.length : Int) then ((some (l0.take (a1 : Int).toNat : List (S32))).bind fun y202 => (if 0 ≤ (wrap64 (a1 + 1)) then (if (wrap64 (a1 + 1)) ≤ (l0.length : Int) then ((some (l0.drop ((wrap64 (a1 + 1)) : Int).toNat : List (S32))).bind fun y207 => (if y202.length + y207.length < 1256584717458 then (some (y202 ++ y207)) else (none))) else (none)) else (none))) else (none)) else (none)))) = some r := h
 clear h
 by_cases c3 : a1 < 0
 ·rw [if_pos c3] at H
  have c3b0 : decide (a1 < 0) = true := decide_eq_true c3
  clear c3
  obtain rfl := Option.some.inj H
  go_enter Try.func12, Try.ntmps12
  go_wp2
  go_ret
  exact ⟨_, by first | rfl | (simp [errW_none, errW_some] <;> rfl) | (simp [*, errW_none, errW_some] <;> rfl), by (with_reducible repeat (first | apply Kd.V_alloc | apply Kd.V_drewN | apply Kd.V_drew)); exact HO0.out, by repeat (first | (with_reducible first | exact HB.out | apply below_alloc | apply pw_below_drewN | apply below_drew1) | exact HB.out)⟩
 ·rw [if_neg c3] at H
  have c3b0 : decide (a1 < 0) = false := decide_eq_false c3
  clear c3
  by_cases c4 : a1 ≥ (l0.length : Int)
  ·rw [if_pos c4] at H
   have c4b0 : decide ((l0.length : Int) ≤ a1) = true := decide_eq_true c4
   clear c4
   obtain rfl := Option.some.inj H
   go_enter Try.func12, Try.ntmps12
   go_wp2
   go_ret
   exact ⟨_, by first | rfl | (simp [errW_none, errW_some] <;> rfl) | (simp [*, errW_none, errW_some] <;> rfl), by (with_reducible repeat (first | apply Kd.V_alloc | apply Kd.V_drewN | apply Kd.V_drew)); exact HO0.out, by repeat (first | (with_reducible first | exact HB.out | apply below_alloc | apply pw_below_drewN | apply below_drew1) | exact HB.out)⟩
  ·rw [if_neg c4] at H
   have c4b0 : decide ((l0.length : Int) ≤ a1) = false := decide_eq_false c4
   clear c4
   by_cases c5 : 0 ≤ a1
   rotate_left
   ·rw [if_neg c5] at H
    exact absurd H (by simp)

   rw [if_pos c5] at H
   have c5b0 := eq_true c5
   have c5b1 : decide (0 ≤ a1) = true := decide_eq_true c5
   clear c5
   by_cases c6 : a1 ≤ (l0.length : Int)
   rotate_left
   ·rw [if_neg c6] at H
    exact absurd H (by simp)
   rw [if_pos c6] at H
   have c6b0 := eq_true c6
   have c6b1 : decide (a1 ≤ (l0.length : Int)) = true := decide_eq_true c6
   clear c6
   obtain ⟨y202, hy202⟩ : ∃ y_ : List (S32), y_ = (l0.take (a1 : Int).toNat) := ⟨_, rfl⟩
   replace H : (if 0 ≤ (wrap64 (a1 + 1)) then (if (wrap64 (a1 + 1)) ≤ (l0.length : Int) then ((some (l0.drop ((wrap64 (a1 + 1)) : Int).toNat : List (S32))).bind fun y207 => (if y202.length + y207.length < 1256584717458 then (some (y202 ++ y207)) else (none))) else (none)) else (none)) = some r := by first | (rw [hy202]; with_reducible exact H) | (have H2_ := (Option.bind_some _ _).symm.trans H; rw [hy202]; with_reducible exact H2_) | (have H2_ := (Option.bind_some _ _).symm.trans H; with_reducible exact H2_) | with_reducible exact H | (rw [hy202]; exact H) | exact H
   have Ny202 := Aside0.mk hy202
   clear hy202
   obtain ⟨ji7, hji7⟩ : ∃ j_ : Int, (wrap64 (a1 + 1)) = j_ := ⟨_, rfl⟩
   replace H : (if 0 ≤ (ji7) then (if (ji7) ≤ (l0.length : Int) then ((some (l0.drop ((ji7) : Int).toNat : List (S32))).bind fun y207 => (if y202.length + y207.length < 1256584717458 then (some (y202 ++ y207)) else (none))) else (none)) else (none)) = some r := by first | (rw [hji7] at H; exact H) | (simp only [hji7] at H ⊢; exact H)
   have hji7w : (IntKind.i64.wrap (a1 + 1)) = ji7 := (i64_w _).trans hji7
   by_cases c8 : 0 ≤ (ji7)
   rotate_left
   ·rw [if_neg c8] at H
    exact absurd H (by simp)
   rw [if_pos c8] at H
   have c8b0 := eq_true c8
   have c8b1 : decide (0 ≤ (ji7)) = true := decide_eq_true c8
   clear c8
   by_cases c9 : (ji7) ≤ (l0.length : Int)
   rotate_left
   ·rw [if_neg c9] at H
    exact absurd H (by simp)
   rw [if_pos c9] at H
   have c9b0 := eq_true c9
   have c9b1 : decide ((ji7) ≤ (l0.length : Int)) = true := decide_eq_true c9
   clear c9
   obtain ⟨y207, hy207⟩ : ∃ y_ : List (S32), y_ = (l0.drop ((ji7) : Int).toNat) := ⟨_, rfl⟩
   replace H : (if y202.length + y207.length < 1256584717458 then (some (y202 ++ y207)) else (none)) = some r := by first | (rw [hy207]; with_reducible exact H) | (have H2_ := (Option.bind_some _ _).symm.trans H; rw [hy207]; with_reducible exact H2_) | (have H2_ := (Option.bind_some _ _).symm.trans H; with_reducible exact H2_) | with_reducible exact H | (rw [hy207]; exact H) | exact H
   have Ny207 := Aside0.mk hy207
   clear hy207
   by_cases c10 : y202.length + y207.length < 1256584717458
   rotate_left
   ·rw [if_neg c10] at H
    exact absurd H (by simp)
   rw [if_pos c10] at H
   have LMc10 := Aside0.mk c10
   clear c10
   obtain ⟨y212, hy212⟩ : ∃ y_ : List (S32), y_ = (y202 ++ y207) := ⟨_, rfl⟩
   replace H : (some y212) = some r := by first | (rw [hy212]; with_reducible exact H) | (have H2_ := (Option.bind_some _ _).symm.trans H; rw [hy212]; with_reducible exact H2_) | (have H2_ := (Option.bind_some _ _).symm.trans H; with_reducible exact H2_) | with_reducible exact H | (rw [hy212]; exact H) | exact H
   have Ny212 := Aside0.mk hy212
   clear hy212
   obtain rfl := Option.some.inj H
   go_enter Try.func12, Try.ntmps12
   try go_wp2
   have n0_ := Aside0.mk (Kd.V_drew HO0.out)
   have n1_ := Aside0.mk (below_drew1 HB.out)
   clear HO0
   clear HB
   have HO0 := n0_
   have HB := n1_
   clear n0_ n1_
   have q12 : (a1 : Int) ≤ ((l0.length : Int) : Int) := of_decide_eq_true (by first | (with_reducible assumption) | assumption)
   obtain ⟨i012, hi012, _, hsz12, _⟩ := info_parts info32
   have hroom12 : l0.length ≤ c0 := (Kd.V_reads' HO0.out).2.1
   have hC12 : Kd.F k32 _ _ A0 l0.length l0 := (Kd.V_at (base := w.heap.size) HO0.out).2.2
   have hcut12 := cut_to3 (P := Try.prog) 22 32 .i64 Try.underlying22 hi012 A0 l0.length c0 a1 (of_decide_eq_true (by first | (with_reducible assumption) | assumption)) q12 hroom12
   have hr12 := Kd.F_take (m := (a1 : Int).toNat) hC12 (by omega)
   have hy12 : y202.length = (a1 : Int).toNat := (by rw [Ny202.out, List.length_take]; omega)
   rw [← Ny202.out] at hr12
   rw [← hy12] at hcut12
   have HO206 := Aside0.mk (show Kd.V k32 32 _ w.heap.size _ (.slice A0 y202.length y202.length) y202 from Kd.V_mk (by omega) hr12)
   have HC206 := Aside0.mk (show y202.length ≤ y202.length from by omega)
   clear hr12 hC12 hroom12 hi012 hsz12
   have KY12 := Aside0.mk hy12
   clear hy12
   replace q12 := eq_true q12
   have q13 : ((ji7) : Int) ≤ ((l0.length : Int) : Int) := of_decide_eq_true (by first | (with_reducible assumption) | assumption)
   obtain ⟨i013, hi013, _, hsz13, _⟩ := info_parts info32
   have hroom13 : l0.length ≤ c0 := (Kd.V_reads' HO0.out).2.1
   have hC13 : Kd.F k32 _ _ A0 l0.length l0 := (Kd.V_at (base := w.heap.size) HO0.out).2.2
   have q013 : (0 : Int) ≤ ((ji7) : Int) := of_decide_eq_true (by first | (with_reducible assumption) | assumption)
   have hcut13 := cut_from (P := Try.prog) 22 32 .i64 Try.underlying22 hi013 12 hsz13 A0 l0.length c0 (ji7) q013 q13
   have hr13 := Kd.F_cut (m := ((ji7) : Int).toNat) (c := c0) hC13 (by omega) hroom13
   obtain ⟨A13, hA13⟩ : ∃ A1, A1 = (if c0 = ((ji7) : Int).toNat then A0 else (A0 : Option Addr).map (·.add (((ji7) : Int).toNat * 12))) := ⟨_, rfl⟩
   obtain ⟨c13, hc13⟩ : ∃ c1, c1 = c0 - ((ji7) : Int).toNat := ⟨_, rfl⟩
   have hy13 : y207.length = l0.length - ((ji7) : Int).toNat := (by rw [Ny207.out, List.length_drop] <;> omega)
   rw [show (l0).drop ((ji7) : Int).toNat = y207 from Ny207.out.symm] at hr13
   replace hr13 : Kd.F k32 _ _ A13 y207.length y207 := (by rw [hA13]; exact hr13)
   rw [← hy13, ← hA13, ← hc13] at hcut13
   have HO211 := Aside0.mk (show Kd.V k32 32 _ w.heap.size _ (.slice A13 y207.length c13) y207 from Kd.V_mk (by rw [hy13, hc13]; exact Nat.sub_le_sub_right hroom13 _) hr13)
   have HC211 := Aside0.mk (show y207.length ≤ c13 from by rw [hy13, hc13]; exact Nat.sub_le_sub_right hroom13 _)
   clear hr13 hC13 hroom13 hi013 hsz13 hc13
   have KY13 := Aside0.mk hy13
   have KA13 := Aside0.mk hA13
   clear hy13 hA13
   replace q13 := eq_true q13
   refine start_ (n := 10) (S := fun w' => True) (ds := []) #[false, false, false, false, false, false, false, false, false, false] (by kernel_rfl) rfl rfl trivial (fun hHeld => ?_); refine with_tabW pend_Drop.tab3 pend_Drop.bits3 (fun HT_ HW_ => ?_)
   generalize w.drew = w11 at HO0 HB HO206 HO211 hHeld ⊢
   refine pure_ (i := 0) (N := some 14) (v := ?_) (a' := ?_) #[true, false, false, false, false, false, false, false, false, false] rfl rfl (any_of HT_.out (by kernel_rfl)) (fun _ _ _ h => h) (Or.inl ⟨by rfl, ?_⟩) ?_ ?_
   rotate_left
   ·intro w'
    go_simp
    with_reducible rfl
   rotate_left
   ·simp only [Act.put, List.setIfInBounds_toArray, List.set_cons_zero, List.set_cons_succ, i64_w, i32_w]
    rfl
   refine pure_ (i := 1) (N := some 15) (v := ?_) (a' := ?_) #[true, true, false, false, false, false, false, false, false, false] rfl rfl (any_of HT_.out (by kernel_rfl)) (fun _ _ _ h => h) (Or.inl ⟨by rfl, ?_⟩) ?_ ?_
   rotate_left
   ·intro w'
    go_simp
    with_reducible rfl
   rotate_left
   ·simp only [Act.put, List.setIfInBounds_toArray, List.set_cons_zero, List.set_cons_succ, i64_w, i32_w]
    rfl
   refine pure_ (i := 2) (N := some 16) (v := ?_) (a' := ?_) #[true, true, true, false, false, false, false, false, false, false] rfl rfl (any_of HT_.out (by kernel_rfl)) (fun _ _ _ h => h) (Or.inl ⟨by rfl, ?_⟩) ?_ ?_
   rotate_left
   ·intro w'
    go_simp
    with_reducible rfl
   rotate_left
   ·simp only [Act.put, List.setIfInBounds_toArray, List.set_cons_zero, List.set_cons_succ, i64_w, i32_w]
    rfl
   refine pure_ (i := 3) (N := some 17) (v := ?_) (a' := ?_) #[true, true, true, true, false, false, false, false, false, false] rfl rfl (any_of HT_.out (by kernel_rfl)) (fun _ _ _ h => h) (Or.inl ⟨by rfl, ?_⟩) ?_ ?_
   rotate_left
   ·intro w'
    go_simp
    with_reducible rfl
   rotate_left
   ·simp only [Act.put, List.setIfInBounds_toArray, List.set_cons_zero, List.set_cons_succ, i64_w, i32_w]
    rfl
   refine pure_ (i := 4) (N := some 18) (v := ?_) (a' := ?_) #[true, true, true, true, true, false, false, false, false, false] rfl rfl (any_of HT_.out (by kernel_rfl)) (fun _ _ _ h => h) (Or.inl ⟨by rfl, ?_⟩) ?_ ?_
   rotate_left
   ·intro w'
    go_simp
    with_reducible rfl
   rotate_left
   ·simp only [Act.put, List.setIfInBounds_toArray, List.set_cons_zero, List.set_cons_succ, i64_w, i32_w]
    rfl
   refine pure_ (i := 5) (N := some 19) (v := ?_) (a' := ?_) #[true, true, true, true, true, true, false, false, false, false] rfl rfl (any_of HT_.out (by kernel_rfl)) (fun _ _ _ h => h) (Or.inl ⟨by rfl, ?_⟩) ?_ ?_
   rotate_left
   ·intro w'
    go_simp
    with_reducible rfl
   rotate_left
   ·simp only [Act.put, List.setIfInBounds_toArray, List.set_cons_zero, List.set_cons_succ, i64_w, i32_w]
    rfl
   refine pure_ (i := 6) (N := some 20) (v := ?_) (a' := ?_) #[true, true, true, true, true, true, true, false, false, false] rfl rfl (any_of HT_.out (by kernel_rfl)) (fun _ _ _ h => h) (Or.inl ⟨by rfl, ?_⟩) ?_ ?_
   rotate_left
   ·intro w'
    go_simp
    with_reducible rfl
   rotate_left
   ·simp only [Act.put, List.setIfInBounds_toArray, List.set_cons_zero, List.set_cons_succ, i64_w, i32_w]
    rfl
   refine pure_ (i := 7) (N := some 21) (v := ?_) (a' := ?_) #[true, true, true, true, true, true, true, true, false, false] rfl rfl (any_of HT_.out (by kernel_rfl)) (fun _ _ _ h => h) (Or.inl ⟨by rfl, ?_⟩) ?_ ?_
   rotate_left
   ·intro w'
    go_simp
    with_reducible rfl
   rotate_left
   ·simp only [Act.put, List.setIfInBounds_toArray, List.set_cons_zero, List.set_cons_succ, i64_w, i32_w]
    rfl
   refine one_ (i := 8) (N := some 22) #[true, true, true, true, true, true, true, true, true, false] rfl rfl (one_of HT_.out (by kernel_rfl)) (by decide) (fun K hK => ?_)
   refine Kd.V_append_rows_full_step k32 (w0 := w) w.heap.size (by rfl) (.tmp 17) (.tmp 21) 22 32 (.agg #[(.int .i64 0), (.int .i64 0), (.int .i64 0), (.int .i64 0), (.int .i64 0), (.int .i64 0), (.int .i64 0), (.int .i64 0), (.int .i64 0), (.int .i64 0), (.slice none 0 0), (.int .i64 0)]) 112 rfl Try.underlying22 info32 rfl (by decide) (by omega) (.slice A0 y202.length y202.length) y202 y207 _ _ _ (fun k_ => (P0_ k_ ∨ w.heap.size ≤ k_)) (fun k_ => ((fun k_ => (P0_ k_ ∨ w.heap.size ≤ k_))) k_ ∧ some k_ ≠ (.slice none 0 0 : Value).ownBlock) rfl rfl ?aO ?aR (fun _ hk => hk) ?aF ?aB ?aS ?aL ?_
   (case aR => exact (by skip; exact Kd.V_F (Kd.V_mono (ok' := (fun k_ => ((fun k_ => (P0_ k_ ∨ w.heap.size ≤ k_))) k_ ∧ some k_ ≠ (.slice none 0 0 : Value).ownBlock)) (HO211.out) (fun k_ hk => ⟨hk, (by simp [Value.ownBlock])⟩))))
   (case aB => exact (by repeat (first | (with_reducible first | exact HB.out | apply below_alloc | apply pw_below_drewN | apply below_drew1) | exact HB.out)))
   (case aF => exact (fun k_ hk => (.inr (Nat.le_trans (below_size (by repeat (first | (with_reducible first | exact HB.out | apply below_alloc | apply pw_below_drewN | apply below_drew1) | exact HB.out))) hk))))
   (case aO => exact (Kd.VF_of (by (with_reducible repeat (first | apply Kd.V_alloc | apply Kd.V_drewN | apply Kd.V_drew)); exact HO206.out)))
   (case aS => exact (below_size (by repeat (first | (with_reducible first | exact HB.out | apply below_alloc | apply pw_below_drewN | apply below_drew1) | exact HB.out))))
   (case aL => have := LMc10.out; omega)
   intro v213 w14 ho hb hg hat
   rw [← Ny212.out] at ho
   have n0_ := Aside0.mk (Kd.V_grown (by (with_reducible repeat (first | apply Kd.V_alloc | apply Kd.V_drewN | apply Kd.V_drew)); exact HO0.out) hg (fun _ _ => by simp [Value.ownBlock]))
   have n1_ := Aside0.mk (Kd.V_grown (by (with_reducible repeat (first | apply Kd.V_alloc | apply Kd.V_drewN | apply Kd.V_drew)); exact HO206.out) hg (fun _ _ => by simp [Value.ownBlock]))
   have n2_ := Aside0.mk (Kd.V_grown (by (with_reducible repeat (first | apply Kd.V_alloc | apply Kd.V_drewN | apply Kd.V_drew)); exact HO211.out) hg (fun _ _ => by simp [Value.ownBlock]))
   have n3_ := Aside0.mk (hb)
   have n4_ := Aside0.mk (ho)
   clear HO0
   clear HO206
   clear HO211
   clear HB
   have HO0 := n0_
   have HO206 := n1_
   have HO211 := n2_
   have HB := n3_
   have HO214 := n4_
   clear n0_ n1_ n2_ n3_ n4_
   clear ho hb hg hat
   refine hK.out _ _ trivial (fun hHeld => ?_)
   clear hK K
   refine norm_ (a' := ?_) ?_ ?_
   rotate_left
   ·show Act.put _ (some 22) _ = _
    simp only [Act.put, List.setIfInBounds_toArray, List.set_cons_zero, List.set_cons_succ, i64_w, i32_w]
    rfl
   refine pure_ (i := 9) (N := some 4) (v := ?_) (a' := ?_) #[true, true, true, true, true, true, true, true, true, true] rfl rfl (any_of HT_.out (by kernel_rfl)) (fun _ _ _ h => h) (Or.inl ⟨by rfl, ?_⟩) ?_ ?_
   rotate_left
   ·intro w'
    go_simp
    with_reducible rfl
   rotate_left
   ·simp only [Act.put, List.setIfInBounds_toArray, List.set_cons_zero, List.set_cons_succ, i64_w, i32_w]
    rfl
   refine done_ (done_of HT_.out (by kernel_rfl)) ?_
   try go_wp2
   go_ret
   exact ⟨_, by first | rfl | (simp [errW_none, errW_some] <;> rfl) | (simp only [← hji7]; first | rfl | (simp [errW_none, errW_some] <;> rfl)) | (simp [*, errW_none, errW_some] <;> rfl), by (with_reducible repeat (first | apply Kd.V_alloc | apply Kd.V_drewN | apply Kd.V_drew)); exact HO214.out, by repeat (first | (with_reducible first | exact HB.out | apply below_alloc | apply pw_below_drewN | apply below_drew1) | exact HB.out)⟩
/-! ### law20_PendBound: function 4 -/
mutual
def law20_PendBound.l0 : Nat → List Int → List (S32) → Int → Int → Option (Bool)
 | 0, _, _, _, _ => none
 | k + 1, x0, x5, x6, x7 => if x7 < (x0.length : Int) then (if 0 ≤ x7 then (if (wrap64 (rd x0 x7)) < 0 then ((pend_Find.f k x5 (Int.tmod (wrap64 (-(wrap64 (rd x0 x7)))) 16)).bind fun t218 => ((pend_Drop.f x5 t218).bind fun t219 => (if (t219.length : Int) = (x5.length : Int) then ((pend_Find.f k t219 (Int.tmod (wrap64 (-(wrap64 (rd x0 x7)))) 16)).bind fun t222 => (if t222 ≥ 0 then (none) else (law20_PendBound.l0 k x0 t219 x6 (wrap64 (x7 + 1))))) else (if t218 < 0 then (none) else (if (t219.length : Int) = (wrap64 ((x5.length : Int) - 1)) then ((pend_Find.f k t219 (Int.tmod (wrap64 (-(wrap64 (rd x0 x7)))) 16)).bind fun t223 => (if t223 ≥ 0 then (none) else (law20_PendBound.l0 k x0 t219 x6 (wrap64 (x7 + 1))))) else (none)))))) else ((pend_Add.f k x5 (Int.tmod (wrap64 (rd x0 x7)) 16) 0 0 0 0 0 0 0 0 0 ([] : List Int) x7 x6).bind fun bt224 => (if ((bt224.2 == 11) != (decide ((x5.length : Int) ≥ x6))) = true then (law20_PendBound.j1 k x0 x6 x7 bt224.1 true) else (if bt224.2 = 0 then (if (bt224.1.length : Int) = (wrap64 ((x5.length : Int) + 1)) then (if 0 ≤ (wrap64 ((bt224.1.length : Int) - 1)) then (if (wrap64 ((bt224.1.length : Int) - 1)) < (bt224.1.length : Int) then (law20_PendBound.j1 k x0 x6 x7 bt224.1 (((rd_T32 bt224.1 (wrap64 ((bt224.1.length : Int) - 1))).f0) != (Int.tmod (wrap64 (rd x0 x7)) 16))) else (none)) else (none)) else (law20_PendBound.j1 k x0 x6 x7 bt224.1 true)) else (law20_PendBound.j1 k x0 x6 x7 bt224.1 false))))) else (none)) else ((law20_awake.f k).bind fun t216 => (some t216))
def law20_PendBound.j1 : Nat → List Int → Int → Int → List (S32) → Bool → Option (Bool)
 | 0, _, _, _, _, _ => none
 | k + 1, x0, x6, x7, x11, x106 => if x106 = true then (none) else (if (x11.length : Int) > x6 then (none) else ((pend_Right.f k x11).bind fun t229 => (if t229 = true then ((ref20_Right.f k x11).bind fun t230 => (if t230 = true then (law20_PendBound.l0 k x0 x11 x6 (wrap64 (x7 + 1))) else (none))) else (none))))
end
def law20_PendBound.f (k : Nat) (l0 : List Int) (a1 : Int) : Option (Bool) := if (l0.length : Int) > 200 then ((law20_awake.f k).bind fun t215 => (some t215)) else (law20_PendBound.l0 k l0 ([] : List (S32)) (wrap64 (Int.tmod a1 9)) 0)
theorem law20_PendBound.mono_l : ∀ k, (∀ y0 y1 y2 y3, LeO (law20_PendBound.l0 k y0 y1 y2 y3) (law20_PendBound.l0 (k + 1) y0 y1 y2 y3)) ∧ (∀ y0 y1 y2 y3 y4, LeO (law20_PendBound.j1 k y0 y1 y2 y3 y4) (law20_PendBound.j1 (k + 1) y0 y1 y2 y3 y4))
 | 0 => ⟨fun _ _ _ _ r h => by simp [law20_PendBound.l0] at h, fun _ _ _ _ _ r h => by simp [law20_PendBound.j1] at h⟩
 | k + 1 => by
  obtain ⟨ih0, ih1⟩ := law20_PendBound.mono_l k
  refine ⟨?_, ?_⟩
  ·intro y0 y1 y2 y3
   unfold law20_PendBound.l0
   repeat' first
   | (with_reducible exact ih0 _ _ _ _)
   | (with_reducible exact ih1 _ _ _ _ _)
   | (with_reducible exact law20_awake.mono _)
   | (with_reducible exact pend_Add.mono _ _ _ _ _ _ _ _ _ _ _ _ _ _ _)
   | (with_reducible exact pend_Find.mono _ _ _)
   | (with_reducible exact pend_Right.mono _ _)
   | (with_reducible exact ref20_Right.mono _ _)
   | (with_reducible exact LeO.refl _)
   | (with_reducible exact LeO.none _)
   | (with_reducible refine LeO.ite ?_ ?_)
   | (with_reducible refine LeO.bind ?_ (fun _ => ?_))
   | exact ih0 _ _ _ _
   | exact ih1 _ _ _ _ _
   | exact law20_awake.mono _
   | exact pend_Add.mono _ _ _ _ _ _ _ _ _ _ _ _ _ _ _
   | exact pend_Find.mono _ _ _
   | exact pend_Right.mono _ _
   | exact ref20_Right.mono _ _
   | exact LeO.none _
   | refine LeO.ite ?_ ?_
   | refine LeO.bind ?_ (fun _ => ?_)
  ·intro y0 y1 y2 y3 y4
   unfold law20_PendBound.j1
   repeat' first
   | (with_reducible exact ih0 _ _ _ _)
   | (with_reducible exact ih1 _ _ _ _ _)
   | (with_reducible exact law20_awake.mono _)
   | (with_reducible exact pend_Add.mono _ _ _ _ _ _ _ _ _ _ _ _ _ _ _)
   | (with_reducible exact pend_Find.mono _ _ _)
   | (with_reducible exact pend_Right.mono _ _)
   | (with_reducible exact ref20_Right.mono _ _)
   | (with_reducible exact LeO.refl _)
   | (with_reducible exact LeO.none _)
   | (with_reducible refine LeO.ite ?_ ?_)
   | (with_reducible refine LeO.bind ?_ (fun _ => ?_))
   | exact ih0 _ _ _ _
   | exact ih1 _ _ _ _ _
   | exact law20_awake.mono _
   | exact pend_Add.mono _ _ _ _ _ _ _ _ _ _ _ _ _ _ _
   | exact pend_Find.mono _ _ _
   | exact pend_Right.mono _ _
   | exact ref20_Right.mono _ _
   | exact LeO.none _
   | refine LeO.ite ?_ ?_
   | refine LeO.bind ?_ (fun _ => ?_)
theorem law20_PendBound.mono : ∀ a0 a1 k, LeO (law20_PendBound.f k a0 a1) (law20_PendBound.f (k + 1) a0 a1) := by
 intro a0 a1 k
 obtain ⟨ih0, ih1⟩ := law20_PendBound.mono_l k
 unfold law20_PendBound.f
 repeat' first
  | (with_reducible exact ih0 _ _ _ _)
  | (with_reducible exact ih1 _ _ _ _ _)
  | (with_reducible exact law20_awake.mono _)
  | (with_reducible exact pend_Add.mono _ _ _ _ _ _ _ _ _ _ _ _ _ _ _)
  | (with_reducible exact pend_Find.mono _ _ _)
  | (with_reducible exact pend_Right.mono _ _)
  | (with_reducible exact ref20_Right.mono _ _)
  | (with_reducible exact LeO.refl _)
  | (with_reducible exact LeO.none _)
  | (with_reducible refine LeO.ite ?_ ?_)
  | (with_reducible refine LeO.bind ?_ (fun _ => ?_))
  | exact ih0 _ _ _ _
  | exact ih1 _ _ _ _ _
  | exact law20_awake.mono _
  | exact pend_Add.mono _ _ _ _ _ _ _ _ _ _ _ _ _ _ _
  | exact pend_Find.mono _ _ _
  | exact pend_Right.mono _ _
  | exact ref20_Right.mono _ _
  | exact LeO.none _
  | refine LeO.ite ?_ ?_
  | refine LeO.bind ?_ (fun _ => ?_)
set_option maxHeartbeats 8000000 in
set_option maxRecDepth 100000 in
theorem law20_PendBound.calls (k : Nat) (A0 : Option Addr) (c0 : Nat) (l0 : List Int) (a1 : Int) (r : Bool) (w : World) (hr0 : Kd.C (Kd.int .i16) w A0 l0.length l0) (hc0 : l0.length ≤ c0) (h : law20_PendBound.f k l0 a1 = some r) :
 Calls Try.prog 4 #[.slice A0 l0.length c0, .int .u8 a1] w fun e w' => e = .returned (.bool r) ∧ Below w.heap.size w w' := by
 have hu32 := Try.underlying32
 have HR0 := Aside0.mk hr0
 have HC0 := Aside0.mk hc0
 clear hr0 hc0
 have HB := Aside0.mk (Below.refl w.heap.size w)
 have H : (if (l0.length : Int) > 200 then ((law20_awake.f k).bind fun t215 => (some t215)) else (law20_PendBound.l0 k l0 ([] : List (S32)) (wrap64 (Int.tmod a1 9)) 0)) = some r := h
 clear h
 by_cases c3 : (l0.length : Int) > 200
 ·rw [if_pos c3] at H
  have c3b0 : decide (200 < (l0.length : Int)) = true := decide_eq_true c3
  have c3b1 : decide (200 < l0.length) = true := decide_eq_true (by omega)
  clear c3
  replace H := Option.bind_eq_some_iff.mp H
  obtain ⟨t215, A40, H⟩ := H
  replace H : (some t215) = some r := H
  have A4 := Aside0.mk A40
  clear A40
  obtain rfl := Option.some.inj H
  go_enter Try.func4, Try.ntmps4
  go_wp2_with (first | ((with_reducible refine gate_callee (f := 7) rfl ?_); refine goesL_ (some 16) rfl rfl Try.func7 (by kernel_rfl) rfl #[] rfl (by (try simp only [List.map_toArray, List.map_cons, List.map_nil]); first | done | rfl | (simp only [List.length_drop, List.length_take]; rfl)) ?_; (with_reducible refine (law20_awake.calls k  t215 _ A4.out).mono ?_); rintro e w5 ⟨rfl, hb⟩; refine ⟨_, rfl, ?_⟩; have n0_ := Aside0.mk (below_step (by repeat (first | (with_reducible first | exact HB.out | apply below_alloc | apply pw_below_drewN | apply below_drew1) | exact HB.out)) hb); clear HB; have HB := n0_; clear n0_; (try clear hb); (try clear hb2); (try clear hk); (try clear hi)))
  go_ret
  exact ⟨by first | rfl | (simp [errW_none, errW_some] <;> rfl) | (simp [*, errW_none, errW_some] <;> rfl), by repeat (first | (with_reducible first | exact HB.out | apply below_alloc | apply pw_below_drewN | apply below_drew1) | exact HB.out)⟩
 ·rw [if_neg c3] at H
  have c3b0 : decide (200 < (l0.length : Int)) = false := decide_eq_false c3
  have c3b1 : decide (200 < l0.length) = false := decide_eq_false (by omega)
  clear c3
  have H' := Aside0.mk H
  clear H
  go_enter Try.func4, Try.ntmps4
  go_wp2
  go_loopg [5, 7] k (fun kq v5 v7 w' => ∃ (x5_1 : List (S32)) (x7_1 : Int), v7 = .int .i64 x7_1 ∧ Aside0 (law20_PendBound.l0 kq l0 x5_1 (wrap64 (Int.tmod a1 9)) x7_1 = some r) ∧ Aside0 (kq ≤ k) ∧ Aside0 (Kd.V k32 32 w' w.heap.size (fun _ => True) v5 x5_1) ∧ Aside0 (Below w.heap.size w w'))
  case atStart => exact ⟨(([] : List (S32))), (0), (by first | rfl | (simp; done) | (simp [*]; done) | (simp [bne_nil_]; done)), H', ⟨Nat.le_refl _⟩, ⟨Kd.V_nil _ _ _ _ _⟩, ⟨by repeat (first | (with_reducible first | exact HB.out | apply below_alloc | apply pw_below_drewN | apply below_drew1) | exact HB.out)⟩⟩
  case round =>
   clear H'
   try clear p2
   try clear c3
   try clear c3b0
   try clear c3b1
   try clear c4
   obtain ⟨x5_1, x7_1, rfl, HA, HK1, HO_5, HB⟩ := hrel
   cases gk with
   | zero => exact absurd HA.out (by simp [law20_PendBound.l0])
   | succ k1 =>
    have H := HA.out
    clear HA
    simp only [law20_PendBound.l0] at H
    by_cases c6 : x7_1 < (l0.length : Int)
    ·rw [if_pos c6] at H
     have c6b0 : decide (x7_1 < (l0.length : Int)) = true := decide_eq_true c6
     clear c6
     by_cases c7 : 0 ≤ x7_1
     rotate_left
     ·rw [if_neg c7] at H
      exact absurd H (by simp)
     rw [if_pos c7] at H
     have c7b0 : decide (0 ≤ x7_1) = true := decide_eq_true c7
     clear c7
     by_cases c8 : (wrap64 (rd l0 x7_1)) < 0
     ·rw [if_pos c8] at H
      have c8b0 : decide ((wrap64 (rd l0 x7_1)) < 0) = true := decide_eq_true c8
      clear c8
      replace H := Option.bind_eq_some_iff.mp H
      obtain ⟨t218, A90, H⟩ := H
      replace H : ((pend_Drop.f x5_1 t218).bind fun t219 => (if (t219.length : Int) = (x5_1.length : Int) then ((pend_Find.f k1 t219 (Int.tmod (wrap64 (-(wrap64 (rd l0 x7_1)))) 16)).bind fun t222 => (if t222 ≥ 0 then (none) else (law20_PendBound.l0 k1 l0 t219 (wrap64 (Int.tmod a1 9)) (wrap64 (x7_1 + 1))))) else (if t218 < 0 then (none) else (if (t219.length : Int) = (wrap64 ((x5_1.length : Int) - 1)) then ((pend_Find.f k1 t219 (Int.tmod (wrap64 (-(wrap64 (rd l0 x7_1)))) 16)).bind fun t223 => (if t223 ≥ 0 then (none) else (law20_PendBound.l0 k1 l0 t219 (wrap64 (Int.tmod a1 9)) (wrap64 (x7_1 + 1))))) else (none))))) = some r := H
      have A9 := Aside0.mk A90
      clear A90
      replace H := Option.bind_eq_some_iff.mp H
      obtain ⟨t219, A100, H⟩ := H
      replace H : (if (t219.length : Int) = (x5_1.length : Int) then ((pend_Find.f k1 t219 (Int.tmod (wrap64 (-(wrap64 (rd l0 x7_1)))) 16)).bind fun t222 => (if t222 ≥ 0 then (none) else (law20_PendBound.l0 k1 l0 t219 (wrap64 (Int.tmod a1 9)) (wrap64 (x7_1 + 1))))) else (if t218 < 0 then (none) else (if (t219.length : Int) = (wrap64 ((x5_1.length : Int) - 1)) then ((pend_Find.f k1 t219 (Int.tmod (wrap64 (-(wrap64 (rd l0 x7_1)))) 16)).bind fun t223 => (if t223 ≥ 0 then (none) else (law20_PendBound.l0 k1 l0 t219 (wrap64 (Int.tmod a1 9)) (wrap64 (x7_1 + 1))))) else (none)))) = some r := H
      have A10 := Aside0.mk A100
      clear A100
      by_cases c11 : (t219.length : Int) = (x5_1.length : Int)
      ·rw [if_pos c11] at H
       have c11b0 : ((t219.length : Int) == (x5_1.length : Int)) = true := beq_iff_eq.mpr c11
       have c11b1 : ((t219.length : Int) != (x5_1.length : Int)) = false := bne_eq_false_iff_eq.mpr c11
       have c11b2 : (t219.length == x5_1.length) = true := by first | simpa using c11 | (simp at c11 ⊢; omega)
       clear c11
       replace H := Option.bind_eq_some_iff.mp H
       obtain ⟨t222, A120, H⟩ := H
       replace H : (if t222 ≥ 0 then (none) else (law20_PendBound.l0 k1 l0 t219 (wrap64 (Int.tmod a1 9)) (wrap64 (x7_1 + 1)))) = some r := H
       have A12 := Aside0.mk A120
       clear A120
       by_cases c13 : t222 ≥ 0
       ·rw [if_pos c13] at H
        exact absurd H (by simp)
       ·rw [if_neg c13] at H
        have c13b0 : decide (0 ≤ t222) = false := decide_eq_false c13
        clear c13
        have H' := Aside0.mk H
        clear H
        have p217 : 0 ≤ (x7_1 : Int) := of_decide_eq_true (by first | (with_reducible assumption) | assumption)
        have q217 : x7_1 < (l0.length : Int) := of_decide_eq_true (by first | (with_reducible assumption) | assumption)
        obtain ⟨ad217, e217, hx217_0⟩ := Kd.at_int HR0.out x7_1 p217 q217
        cases e217
        replace hx217_0 := (HB.out.cell (World.block_lt_of_cell? w _ hx217_0)).trans hx217_0
        replace p217 := eq_true p217
        replace q217 := eq_true q217
        obtain ⟨Ao14, co14, eo14⟩ := Kd.V_slice HO_5.out
        subst eo14
        go_wp2_with (first | ((with_reducible refine gate_callee (f := 10) rfl ?_); refine goesL_ (some 39) rfl rfl Try.func10 (by kernel_rfl) rfl #[.slice Ao14 x5_1.length co14, .int .i64 (Int.tmod (wrap64 (-(wrap64 (rd l0 x7_1)))) 16)] rfl (by (try simp only [List.map_toArray, List.map_cons, List.map_nil]); first | done | rfl | (simp only [List.length_drop, List.length_take]; rfl)) ?_; (with_reducible refine (pend_Find.calls k1 _ _ x5_1 (Int.tmod (wrap64 (-(wrap64 (rd l0 x7_1)))) 16) t218 _ ?side1 ?side2 A9.out).mono ?_); (case side1 => repeat (first | exact (Kd.V_reads' HO_5.out).2.2 | (with_reducible refine Kd.C_alloc ?_ _) | (with_reducible refine Kd.C_drewN ?_ _) | (with_reducible refine Kd.C_drew ?_))); (case side2 => exact (Kd.V_reads' HO_5.out).2.1); rintro e w15 ⟨rfl, hb⟩; refine ⟨_, rfl, ?_⟩; have n0_ := Aside0.mk (Kd.V_below (by (with_reducible repeat (first | apply Kd.V_alloc | apply Kd.V_drewN | apply Kd.V_drew)); exact HO_5.out) hb); have n1_ := Aside0.mk (below_step (by repeat (first | (with_reducible first | exact HB.out | apply below_alloc | apply pw_below_drewN | apply below_drew1) | exact HB.out)) hb); clear HO_5; clear HB; have HO_5 := n0_; have HB := n1_; clear n0_ n1_; (try clear hb); (try clear hb2); (try clear hk); (try clear hi)) | ((with_reducible refine gate_callee (f := 12) rfl ?_); refine goesL_ (some 42) rfl rfl Try.func12 (by kernel_rfl) rfl #[.slice Ao14 x5_1.length co14, .int .i64 t218] rfl (by (try simp only [List.map_toArray, List.map_cons, List.map_nil]); first | done | rfl | (simp only [List.length_drop, List.length_take]; rfl)) ?_; (with_reducible refine (pend_Drop.calls (fun k_ => True) _ _ x5_1 t218 t219 _ ?side1 A10.out).mono ?_); (case side1 => exact HO_5.out); rintro e w16 ⟨v220, rfl, ho0, hb⟩; refine ⟨_, rfl, ?_⟩; have n0_ := Aside0.mk (Kd.V_below (by (with_reducible repeat (first | apply Kd.V_alloc | apply Kd.V_drewN | apply Kd.V_drew)); exact HO_5.out) hb); have n1_ := Aside0.mk (Kd.V_lower (Kd.V_mono (ok' := fun k_ => True) ho0 (fun k_ hk_ => trivial)) (below_size (by repeat (first | (with_reducible first | exact HB.out | apply below_alloc | apply pw_below_drewN | apply below_drew1) | exact HB.out)))); have n2_ := Aside0.mk (below_step (by repeat (first | (with_reducible first | exact HB.out | apply below_alloc | apply pw_below_drewN | apply below_drew1) | exact HB.out)) hb); clear HO_5; clear HB; have HO_5 := n0_; have HO221 := n1_; have HB := n2_; clear n0_ n1_ n2_; (try clear hb); (try clear hb2); (try clear hk); (try clear hi); (try clear ho0); obtain ⟨Ao17, co17, eo17⟩ := Kd.V_slice HO221.out; subst eo17) | (go_at_call 10; (with_reducible refine (pend_Find.calls k1 _ _ t219 (Int.tmod (wrap64 (-(wrap64 (rd l0 x7_1)))) 16) t222 _ ?side1 ?side2 A12.out).mono ?_); (case side1 => repeat (first | exact (Kd.V_reads' HO221.out).2.2 | (with_reducible refine Kd.C_alloc ?_ _) | (with_reducible refine Kd.C_drewN ?_ _) | (with_reducible refine Kd.C_drew ?_))); (case side2 => exact (Kd.V_reads' HO221.out).2.1); rintro e w18 ⟨rfl, hb⟩; have n0_ := Aside0.mk (Kd.V_below (by (with_reducible repeat (first | apply Kd.V_alloc | apply Kd.V_drewN | apply Kd.V_drew)); exact HO_5.out) hb); have n1_ := Aside0.mk (Kd.V_below (by (with_reducible repeat (first | apply Kd.V_alloc | apply Kd.V_drewN | apply Kd.V_drew)); exact HO221.out) hb); have n2_ := Aside0.mk (below_step (by repeat (first | (with_reducible first | exact HB.out | apply below_alloc | apply pw_below_drewN | apply below_drew1) | exact HB.out)) hb); clear HO_5; clear HO221; clear HB; have HO_5 := n0_; have HO221 := n1_; have HB := n2_; clear n0_ n1_ n2_; (try clear hb); (try clear hb2); (try clear hk); (try clear hi)))
        go_roundg k1
        case measure => have := HK1.out; omega
        case rel => exact ⟨(t219), (wrap64 (x7_1 + 1)), (by first | rfl | (simp; done) | (simp [*]; done) | (simp [bne_nil_]; done)), H', ⟨by have := HK1.out; omega⟩, ⟨by (with_reducible repeat (first | apply Kd.V_alloc | apply Kd.V_drewN | apply Kd.V_drew)); exact HO221.out⟩, ⟨by repeat (first | (with_reducible first | exact HB.out | apply below_alloc | apply pw_below_drewN | apply below_drew1) | exact HB.out)⟩⟩
      ·rw [if_neg c11] at H
       have c11b0 : ((t219.length : Int) == (x5_1.length : Int)) = false := beq_eq_false_iff_ne.mpr c11
       have c11b1 : ((t219.length : Int) != (x5_1.length : Int)) = true := bne_iff_ne.mpr c11
       have c11b2 : (t219.length == x5_1.length) = false := by first | simpa using c11 | (simp at c11 ⊢; omega)
       by_cases c19 : t218 < 0
       ·rw [if_pos c19] at H
        exact absurd H (by simp)
       ·rw [if_neg c19] at H
        have c19b0 : decide (t218 < 0) = false := decide_eq_false c19
        clear c19
        by_cases c20 : (t219.length : Int) = (wrap64 ((x5_1.length : Int) - 1))
        rotate_left
        ·rw [if_neg c20] at H
         exact absurd H (by simp)
        rw [if_pos c20] at H
        have c20b0 : ((t219.length : Int) == (wrap64 ((x5_1.length : Int) - 1))) = true := beq_iff_eq.mpr c20
        have c20b1 : ((t219.length : Int) != (wrap64 ((x5_1.length : Int) - 1))) = false := bne_eq_false_iff_eq.mpr c20
        clear c20
        replace H := Option.bind_eq_some_iff.mp H
        obtain ⟨t223, A210, H⟩ := H
        replace H : (if t223 ≥ 0 then (none) else (law20_PendBound.l0 k1 l0 t219 (wrap64 (Int.tmod a1 9)) (wrap64 (x7_1 + 1)))) = some r := H
        have A21 := Aside0.mk A210
        clear A210
        by_cases c22 : t223 ≥ 0
        ·rw [if_pos c22] at H
         exact absurd H (by simp)
        ·rw [if_neg c22] at H
         have c22b0 : decide (0 ≤ t223) = false := decide_eq_false c22
         clear c22
         have H' := Aside0.mk H
         clear H
         have p217 : 0 ≤ (x7_1 : Int) := of_decide_eq_true (by first | (with_reducible assumption) | assumption)
         have q217 : x7_1 < (l0.length : Int) := of_decide_eq_true (by first | (with_reducible assumption) | assumption)
         obtain ⟨ad217, e217, hx217_0⟩ := Kd.at_int HR0.out x7_1 p217 q217
         cases e217
         replace hx217_0 := (HB.out.cell (World.block_lt_of_cell? w _ hx217_0)).trans hx217_0
         replace p217 := eq_true p217
         replace q217 := eq_true q217
         obtain ⟨Ao23, co23, eo23⟩ := Kd.V_slice HO_5.out
         subst eo23
         go_wp2_with (first | ((with_reducible refine gate_callee (f := 10) rfl ?_); refine goesL_ (some 39) rfl rfl Try.func10 (by kernel_rfl) rfl #[.slice Ao23 x5_1.length co23, .int .i64 (Int.tmod (wrap64 (-(wrap64 (rd l0 x7_1)))) 16)] rfl (by (try simp only [List.map_toArray, List.map_cons, List.map_nil]); first | done | rfl | (simp only [List.length_drop, List.length_take]; rfl)) ?_; (with_reducible refine (pend_Find.calls k1 _ _ x5_1 (Int.tmod (wrap64 (-(wrap64 (rd l0 x7_1)))) 16) t218 _ ?side1 ?side2 A9.out).mono ?_); (case side1 => repeat (first | exact (Kd.V_reads' HO_5.out).2.2 | (with_reducible refine Kd.C_alloc ?_ _) | (with_reducible refine Kd.C_drewN ?_ _) | (with_reducible refine Kd.C_drew ?_))); (case side2 => exact (Kd.V_reads' HO_5.out).2.1); rintro e w24 ⟨rfl, hb⟩; refine ⟨_, rfl, ?_⟩; have n0_ := Aside0.mk (Kd.V_below (by (with_reducible repeat (first | apply Kd.V_alloc | apply Kd.V_drewN | apply Kd.V_drew)); exact HO_5.out) hb); have n1_ := Aside0.mk (below_step (by repeat (first | (with_reducible first | exact HB.out | apply below_alloc | apply pw_below_drewN | apply below_drew1) | exact HB.out)) hb); clear HO_5; clear HB; have HO_5 := n0_; have HB := n1_; clear n0_ n1_; (try clear hb); (try clear hb2); (try clear hk); (try clear hi)) | ((with_reducible refine gate_callee (f := 12) rfl ?_); refine goesL_ (some 42) rfl rfl Try.func12 (by kernel_rfl) rfl #[.slice Ao23 x5_1.length co23, .int .i64 t218] rfl (by (try simp only [List.map_toArray, List.map_cons, List.map_nil]); first | done | rfl | (simp only [List.length_drop, List.length_take]; rfl)) ?_; (with_reducible refine (pend_Drop.calls (fun k_ => True) _ _ x5_1 t218 t219 _ ?side1 A10.out).mono ?_); (case side1 => exact HO_5.out); rintro e w25 ⟨v220, rfl, ho0, hb⟩; refine ⟨_, rfl, ?_⟩; have n0_ := Aside0.mk (Kd.V_below (by (with_reducible repeat (first | apply Kd.V_alloc | apply Kd.V_drewN | apply Kd.V_drew)); exact HO_5.out) hb); have n1_ := Aside0.mk (Kd.V_lower (Kd.V_mono (ok' := fun k_ => True) ho0 (fun k_ hk_ => trivial)) (below_size (by repeat (first | (with_reducible first | exact HB.out | apply below_alloc | apply pw_below_drewN | apply below_drew1) | exact HB.out)))); have n2_ := Aside0.mk (below_step (by repeat (first | (with_reducible first | exact HB.out | apply below_alloc | apply pw_below_drewN | apply below_drew1) | exact HB.out)) hb); clear HO_5; clear HB; have HO_5 := n0_; have HO221 := n1_; have HB := n2_; clear n0_ n1_ n2_; (try clear hb); (try clear hb2); (try clear hk); (try clear hi); (try clear ho0); obtain ⟨Ao26, co26, eo26⟩ := Kd.V_slice HO221.out; subst eo26) | (go_at_call 10; (with_reducible refine (pend_Find.calls k1 _ _ t219 (Int.tmod (wrap64 (-(wrap64 (rd l0 x7_1)))) 16) t223 _ ?side1 ?side2 A21.out).mono ?_); (case side1 => repeat (first | exact (Kd.V_reads' HO221.out).2.2 | (with_reducible refine Kd.C_alloc ?_ _) | (with_reducible refine Kd.C_drewN ?_ _) | (with_reducible refine Kd.C_drew ?_))); (case side2 => exact (Kd.V_reads' HO221.out).2.1); rintro e w27 ⟨rfl, hb⟩; have n0_ := Aside0.mk (Kd.V_below (by (with_reducible repeat (first | apply Kd.V_alloc | apply Kd.V_drewN | apply Kd.V_drew)); exact HO_5.out) hb); have n1_ := Aside0.mk (Kd.V_below (by (with_reducible repeat (first | apply Kd.V_alloc | apply Kd.V_drewN | apply Kd.V_drew)); exact HO221.out) hb); have n2_ := Aside0.mk (below_step (by repeat (first | (with_reducible first | exact HB.out | apply below_alloc | apply pw_below_drewN | apply below_drew1) | exact HB.out)) hb); clear HO_5; clear HO221; clear HB; have HO_5 := n0_; have HO221 := n1_; have HB := n2_; clear n0_ n1_ n2_; (try clear hb); (try clear hb2); (try clear hk); (try clear hi)))
         go_roundg k1
         case measure => have := HK1.out; omega
         case rel => exact ⟨(t219), (wrap64 (x7_1 + 1)), (by first | rfl | (simp; done) | (simp [*]; done) | (simp [bne_nil_]; done)), H', ⟨by have := HK1.out; omega⟩, ⟨by (with_reducible repeat (first | apply Kd.V_alloc | apply Kd.V_drewN | apply Kd.V_drew)); exact HO221.out⟩, ⟨by repeat (first | (with_reducible first | exact HB.out | apply below_alloc | apply pw_below_drewN | apply below_drew1) | exact HB.out)⟩⟩
     ·rw [if_neg c8] at H
      have c8b0 : decide ((wrap64 (rd l0 x7_1)) < 0) = false := decide_eq_false c8
      clear c8
      replace H := Option.bind_eq_some_iff.mp H
      obtain ⟨⟨t224, t227⟩, A280, H⟩ := H
      replace H : (if ((t227 == 11) != (decide ((x5_1.length : Int) ≥ (wrap64 (Int.tmod a1 9))))) = true then (law20_PendBound.j1 k1 l0 (wrap64 (Int.tmod a1 9)) x7_1 t224 true) else (if t227 = 0 then (if (t224.length : Int) = (wrap64 ((x5_1.length : Int) + 1)) then (if 0 ≤ (wrap64 ((t224.length : Int) - 1)) then (if (wrap64 ((t224.length : Int) - 1)) < (t224.length : Int) then (law20_PendBound.j1 k1 l0 (wrap64 (Int.tmod a1 9)) x7_1 t224 (((rd_T32 t224 (wrap64 ((t224.length : Int) - 1))).f0) != (Int.tmod (wrap64 (rd l0 x7_1)) 16))) else (none)) else (none)) else (law20_PendBound.j1 k1 l0 (wrap64 (Int.tmod a1 9)) x7_1 t224 true)) else (law20_PendBound.j1 k1 l0 (wrap64 (Int.tmod a1 9)) x7_1 t224 false))) = some r := H
      have A28 := Aside0.mk A280
      clear A280
      have HC29 := Aside0.mk H
      clear H
      have p217 : 0 ≤ (x7_1 : Int) := of_decide_eq_true (by first | (with_reducible assumption) | assumption)
      have q217 : x7_1 < (l0.length : Int) := of_decide_eq_true (by first | (with_reducible assumption) | assumption)
      obtain ⟨ad217, e217, hx217_0⟩ := Kd.at_int HR0.out x7_1 p217 q217
      cases e217
      replace hx217_0 := (HB.out.cell (World.block_lt_of_cell? w _ hx217_0)).trans hx217_0
      replace p217 := eq_true p217
      replace q217 := eq_true q217
      obtain ⟨Ao30, co30, eo30⟩ := Kd.V_slice HO_5.out
      subst eo30
      go_upto_region 16 with (first | ((with_reducible refine gate_callee (f := 13) rfl ?_); refine goesL_ (some 73) rfl rfl Try.func13 (by kernel_rfl) rfl #[.slice Ao30 x5_1.length co30, .agg #[.int .i64 (Int.tmod (wrap64 (rd l0 x7_1)) 16), .int .i64 0, .int .i64 0, .int .i64 0, .int .i64 0, .int .i64 0, .int .i64 0, .int .i64 0, .int .i64 0, .int .i64 0, .slice none 0 0, .int .i64 x7_1], .int .i64 (wrap64 (Int.tmod a1 9))] rfl (by (try simp only [List.map_toArray, List.map_cons, List.map_nil]); first | done | rfl | (simp only [List.length_drop, List.length_take]; rfl)) ?_; (refine (pend_Add.calls k1 (fun k_ => True) _ _ x5_1 (Int.tmod (wrap64 (rd l0 x7_1)) 16) 0 0 0 0 0 0 0 0 0 (fun k_ => False) _ _ ([] : List Int) x7_1 (wrap64 (Int.tmod a1 9)) t224 t227 _ ?side1 ?side2 A28.out).mono ?_); (case side1 => exact HO_5.out); (case side2 => exact Kd.V_nil _ _ _ _ _); rintro e w31 ⟨v225, rfl, ho0, hb⟩; refine ⟨_, rfl, ?_⟩; have n0_ := Aside0.mk (Kd.V_below (by (with_reducible repeat (first | apply Kd.V_alloc | apply Kd.V_drewN | apply Kd.V_drew)); exact HO_5.out) hb); have n1_ := Aside0.mk (Kd.V_lower (Kd.V_mono (ok' := fun k_ => True) ho0 (fun k_ hk_ => trivial)) (below_size (by repeat (first | (with_reducible first | exact HB.out | apply below_alloc | apply pw_below_drewN | apply below_drew1) | exact HB.out)))); have n2_ := Aside0.mk (below_step (by repeat (first | (with_reducible first | exact HB.out | apply below_alloc | apply pw_below_drewN | apply below_drew1) | exact HB.out)) hb); clear HO_5; clear HB; have HO_5 := n0_; have HO226 := n1_; have HB := n2_; clear n0_ n1_ n2_; (try clear hb); (try clear hb2); (try clear hk); (try clear hi); (try clear ho0)))
      (try simp only [Act.put, List.setIfInBounds_toArray, List.set_cons_zero, List.set_cons_succ])
      go_cut [106] (fun v106 wc => ∃ (kq : Nat) (x106_28 : Bool), v106 = .bool x106_28 ∧ Aside0 (law20_PendBound.j1 kq l0 (wrap64 (Int.tmod a1 9)) x7_1 t224 x106_28 = some r) ∧ Aside0 (kq ≤ k1) ∧ Aside0 (Kd.V k32 32 wc w.heap.size (fun _ => True) v225 t224) ∧ Aside0 (Below w.heap.size w wc))
      case first =>
       have H := HC29.out
       clear HC29
       by_cases c32 : ((t227 == 11) != (decide ((x5_1.length : Int) ≥ (wrap64 (Int.tmod a1 9))))) = true
       ·rw [if_pos c32] at H
        have c32b0 : ((t227 == 11) != (decide ((x5_1.length : Int) ≥ (wrap64 (Int.tmod a1 9))))) = true := c32
        (try (have c32b1 : decide ((t227 == 11) = (decide ((x5_1.length : Int) ≥ (wrap64 (Int.tmod a1 9))))) = false := by simpa using c32))
        (try (have c32b2 : ((t227 == 11) == (decide ((x5_1.length : Int) ≥ (wrap64 (Int.tmod a1 9))))) = false := by simpa using c32))
        (try (have c32b3 : ¬ ((t227 == 11) = (decide ((x5_1.length : Int) ≥ (wrap64 (Int.tmod a1 9))))) := by simpa using c32))
        clear c32
        (first | rw [c32b0] | (simp only [i64_w, i32_w]; rw [c32b0]) | skip)
        have H' := Aside0.mk H
        clear H
        go_wp2
        go_meet
        case rel => exact ⟨_, (true), (by first | rfl | (simp; done) | (simp [*]; done) | (simp [bne_nil_]; done)), H', ⟨by have := HK1.out; first | omega | exact Nat.le_refl _⟩, ⟨by (with_reducible repeat (first | apply Kd.V_alloc | apply Kd.V_drewN | apply Kd.V_drew)); exact HO226.out⟩, ⟨by repeat (first | (with_reducible first | exact HB.out | apply below_alloc | apply pw_below_drewN | apply below_drew1) | exact HB.out)⟩⟩
       ·rw [if_neg c32] at H
        have c32b0 : ((t227 == 11) != (decide ((x5_1.length : Int) ≥ (wrap64 (Int.tmod a1 9))))) = false := by simpa using c32
        (try (have c32b1 : decide ((t227 == 11) = (decide ((x5_1.length : Int) ≥ (wrap64 (Int.tmod a1 9))))) = true := by simpa using c32))
        (try (have c32b2 : ((t227 == 11) == (decide ((x5_1.length : Int) ≥ (wrap64 (Int.tmod a1 9))))) = true := by simpa using c32))
        clear c32
        (first | rw [c32b0] | (simp only [i64_w, i32_w]; rw [c32b0]) | skip)
        by_cases c33 : t227 = 0
        ·rw [if_pos c33] at H
         have c33b0 : (t227 == 0) = true := beq_iff_eq.mpr c33
         have c33b1 : (t227 != 0) = false := bne_eq_false_iff_eq.mpr c33
         clear c33
         by_cases c34 : (t224.length : Int) = (wrap64 ((x5_1.length : Int) + 1))
         ·rw [if_pos c34] at H
          have c34b0 : ((t224.length : Int) == (wrap64 ((x5_1.length : Int) + 1))) = true := beq_iff_eq.mpr c34
          have c34b1 : ((t224.length : Int) != (wrap64 ((x5_1.length : Int) + 1))) = false := bne_eq_false_iff_eq.mpr c34
          clear c34
          obtain ⟨ji35, hji35⟩ : ∃ j_ : Int, (wrap64 ((t224.length : Int) - 1)) = j_ := ⟨_, rfl⟩
          replace H : (if 0 ≤ (ji35) then (if (ji35) < (t224.length : Int) then (law20_PendBound.j1 k1 l0 (wrap64 (Int.tmod a1 9)) x7_1 t224 (((rd_T32 t224 (ji35)).f0) != (Int.tmod (wrap64 (rd l0 x7_1)) 16))) else (none)) else (none)) = some r := by first | (rw [hji35] at H; exact H) | (simp only [hji35] at H ⊢; exact H)
          have hji35w : (IntKind.i64.wrap ((t224.length : Int) - 1)) = ji35 := (i64_w _).trans hji35
          by_cases c36 : 0 ≤ (ji35)
          rotate_left
          ·rw [if_neg c36] at H
           exact absurd H (by simp)
          rw [if_pos c36] at H
          have c36b0 : decide (0 ≤ (ji35)) = true := decide_eq_true c36
          clear c36
          by_cases c37 : (ji35) < (t224.length : Int)
          rotate_left
          ·rw [if_neg c37] at H
           exact absurd H (by simp)
          rw [if_pos c37] at H
          have c37b0 : decide ((ji35) < (t224.length : Int)) = true := decide_eq_true c37
          clear c37
          have H' := Aside0.mk H
          clear H
          obtain ⟨Ao38, co38, eo38⟩ := Kd.V_slice HO226.out
          subst eo38
          have p228 : 0 ≤ ((ji35) : Int) := of_decide_eq_true (by first | (with_reducible assumption) | assumption)
          have q228 : (ji35) < (t224.length : Int) := of_decide_eq_true (by first | (with_reducible assumption) | assumption)
          obtain ⟨ad228, A228_10, c228_10, e228, hx228_0, hx228_1, hx228_2, hx228_3, hx228_4, hx228_5, hx228_6, hx228_7, hx228_8, hx228_9, hx228_10, hx228_11, hl228_10, hi228_10⟩ := at_T32 (Kd.V_reads' HO226.out).2.2 (ji35) p228 q228
          cases e228
          obtain ⟨ce228, hce228, hMe228, hcc228⟩ := Kd.V_get HO226.out z32 (ji35) p228 (by first | exact q228 | exact of_decide_eq_true (by first | (with_reducible assumption) | assumption) | (have e_ := (Kd.V_reads' HO226.out).1; omega))
          obtain ⟨ua228_10, uc228_10, rfl, ul228_10, ge228_10⟩ := k32_openF hMe228
          have hv228_10 := hcc228 10 _ rfl
          rw [add_field _ _ 10 (by omega)] at hv228_10
          replace hv228_10 := Option.some.inj (hv228_10.symm.trans hx228_10)
          injection hv228_10 with hva_ hvn_ hvc_
          rw [hva_] at ge228_10
          rw [hvc_] at ul228_10
          have HL228_10 := Aside0.mk (show Kd.V (Kd.int .i64) 3 _ w.heap.size _ _ ((rd_T32 t224 (ji35)).f5.f5) from Kd.V_mk ul228_10 ge228_10)
          clear hva_ hvn_ hvc_ ge228_10 ul228_10
          clear hcc228 hce228
          have HR228_10 := Aside0.mk hi228_10
          have HC228_10 := Aside0.mk hl228_10
          clear hi228_10 hl228_10
          replace p228 := eq_true p228
          replace q228 := eq_true q228
          go_wp2
          go_meet
          case rel => exact ⟨_, ((((rd_T32 t224 (ji35)).f0) != (Int.tmod (wrap64 (rd l0 x7_1)) 16))), (by first | rfl | (simp; done) | (simp only [← hji35] <;> (first | rfl | simp)) | (simp [*]; done)), H', ⟨by have := HK1.out; first | omega | exact Nat.le_refl _⟩, ⟨by (with_reducible repeat (first | apply Kd.V_alloc | apply Kd.V_drewN | apply Kd.V_drew)); exact HO226.out⟩, ⟨by repeat (first | (with_reducible first | exact HB.out | apply below_alloc | apply pw_below_drewN | apply below_drew1) | exact HB.out)⟩⟩
         ·rw [if_neg c34] at H
          have c34b0 : ((t224.length : Int) == (wrap64 ((x5_1.length : Int) + 1))) = false := beq_eq_false_iff_ne.mpr c34
          have c34b1 : ((t224.length : Int) != (wrap64 ((x5_1.length : Int) + 1))) = true := bne_iff_ne.mpr c34
          have H' := Aside0.mk H
          clear H
          obtain ⟨Ao39, co39, eo39⟩ := Kd.V_slice HO226.out
          subst eo39
          go_wp2
          go_meet
          case rel => exact ⟨_, (true), (by first | rfl | (simp; done) | (simp [*]; done) | (simp [bne_nil_]; done)), H', ⟨by have := HK1.out; first | omega | exact Nat.le_refl _⟩, ⟨by (with_reducible repeat (first | apply Kd.V_alloc | apply Kd.V_drewN | apply Kd.V_drew)); exact HO226.out⟩, ⟨by repeat (first | (with_reducible first | exact HB.out | apply below_alloc | apply pw_below_drewN | apply below_drew1) | exact HB.out)⟩⟩
        ·rw [if_neg c33] at H
         have c33b0 : (t227 == 0) = false := beq_eq_false_iff_ne.mpr c33
         have c33b1 : (t227 != 0) = true := bne_iff_ne.mpr c33
         have H' := Aside0.mk H
         clear H
         go_wp2
         go_meet
         case rel => exact ⟨_, (false), (by first | rfl | (simp; done) | (simp [*]; done) | (simp [bne_nil_]; done)), H', ⟨by have := HK1.out; first | omega | exact Nat.le_refl _⟩, ⟨by (with_reducible repeat (first | apply Kd.V_alloc | apply Kd.V_drewN | apply Kd.V_drew)); exact HO226.out⟩, ⟨by repeat (first | (with_reducible first | exact HB.out | apply below_alloc | apply pw_below_drewN | apply below_drew1) | exact HB.out)⟩⟩
      case rest =>
       clear HC29
       try clear c1
       try clear c2
       try clear p2
       try clear q2
       try clear hx2
       try clear c3
       try clear c3b0
       try clear c3b1
       try clear c4
       try clear c6
       try clear c6b0
       try clear p6
       try clear c7
       try clear c7b0
       try clear c8
       try clear c8b0
       try clear c10
       try clear c11
       try clear c11b0
       try clear c11b1
       try clear c11b2
       try clear c12
       try clear c13
       try clear c13b0
       try clear c19
       try clear c19b0
       try clear c20
       try clear c20b0
       try clear c20b1
       try clear p21
       try clear q21
       try clear hx21
       try clear c22
       try clear c22b0
       try clear p22
       try clear q22
       try clear hx22
       try clear c32
       try clear c32b0
       try clear c32b1
       try clear c32b2
       try clear c33
       try clear c33b0
       try clear c33b1
       try clear c34
       try clear c34b0
       try clear c34b1
       try clear c36
       try clear c36b0
       try clear c37
       try clear c37b0
       try clear hx217_0
       try clear hx228_0
       try clear hx228_1
       try clear hx228_10
       try clear hx228_11
       try clear hx228_2
       try clear hx228_3
       try clear hx228_4
       try clear hx228_5
       try clear hx228_6
       try clear hx228_7
       try clear hx228_8
       try clear hx228_9
       try clear p2
       try clear p217
       try clear p228
       try clear q217
       try clear q228
       obtain ⟨kq, x106_28, rfl, HA, HJ28, HO_11, HB⟩ := hcut
       cases kq with
       | zero => exact absurd HA.out (by simp [law20_PendBound.j1])
       | succ kj28 =>
        have H := HA.out
        clear HA
        simp only [law20_PendBound.j1] at H
        by_cases c40 : x106_28 = true
        ·subst c40
         have H1 : (none) = some r := by rw [if_pos rfl] at H; exact H
         clear H
         have H := H1
         clear H1
         exact absurd H (by simp)
        ·replace c40 := Bool.eq_false_iff.mpr c40
         subst c40
         have H1 : (if (t224.length : Int) > (wrap64 (Int.tmod a1 9)) then (none) else ((pend_Right.f kj28 t224).bind fun t229 => (if t229 = true then ((ref20_Right.f kj28 t224).bind fun t230 => (if t230 = true then (law20_PendBound.l0 kj28 l0 t224 (wrap64 (Int.tmod a1 9)) (wrap64 (x7_1 + 1))) else (none))) else (none)))) = some r := by rw [if_neg (show ¬ (false = true) by decide)] at H; exact H
         clear H
         have H := H1
         clear H1
         by_cases c41 : (t224.length : Int) > (wrap64 (Int.tmod a1 9))
         ·rw [if_pos c41] at H
          exact absurd H (by simp)
         ·rw [if_neg c41] at H
          have c41b0 : decide ((wrap64 (Int.tmod a1 9)) < (t224.length : Int)) = false := decide_eq_false c41
          clear c41
          replace H := Option.bind_eq_some_iff.mp H
          obtain ⟨t229, A420, H⟩ := H
          replace H : (if t229 = true then ((ref20_Right.f kj28 t224).bind fun t230 => (if t230 = true then (law20_PendBound.l0 kj28 l0 t224 (wrap64 (Int.tmod a1 9)) (wrap64 (x7_1 + 1))) else (none))) else (none)) = some r := H
          have A42 := Aside0.mk A420
          clear A420
          by_cases c43 : t229 = true
          ·subst c43
           have H1 : ((ref20_Right.f kj28 t224).bind fun t230 => (if t230 = true then (law20_PendBound.l0 kj28 l0 t224 (wrap64 (Int.tmod a1 9)) (wrap64 (x7_1 + 1))) else (none))) = some r := by rw [if_pos rfl] at H; exact H
           clear H
           have H := H1
           clear H1
           replace H := Option.bind_eq_some_iff.mp H
           obtain ⟨t230, A440, H⟩ := H
           replace H : (if t230 = true then (law20_PendBound.l0 kj28 l0 t224 (wrap64 (Int.tmod a1 9)) (wrap64 (x7_1 + 1))) else (none)) = some r := H
           have A44 := Aside0.mk A440
           clear A440
           by_cases c45 : t230 = true
           ·subst c45
            have H1 : (law20_PendBound.l0 kj28 l0 t224 (wrap64 (Int.tmod a1 9)) (wrap64 (x7_1 + 1))) = some r := by rw [if_pos rfl] at H; exact H
            clear H
            have H := H1
            clear H1
            have H' := Aside0.mk H
            clear H
            obtain ⟨Ao46, co46, eo46⟩ := Kd.V_slice HO_11.out
            subst eo46
            go_wp2_with (first | (go_at_call 14; (with_reducible refine (pend_Right.calls kj28 _ _ t224 true _ ?side1 ?side2 A42.out).mono ?_); (case side1 => repeat (first | exact (Kd.V_reads' HO_11.out).2.2 | (with_reducible refine Kd.C_alloc ?_ _) | (with_reducible refine Kd.C_drewN ?_ _) | (with_reducible refine Kd.C_drew ?_))); (case side2 => exact (Kd.V_reads' HO_11.out).2.1); rintro e w47 ⟨rfl, hb⟩; have n0_ := Aside0.mk (Kd.V_below (by (with_reducible repeat (first | apply Kd.V_alloc | apply Kd.V_drewN | apply Kd.V_drew)); exact HO_11.out) hb); have n1_ := Aside0.mk (below_step (by repeat (first | (with_reducible first | exact HB.out | apply below_alloc | apply pw_below_drewN | apply below_drew1) | exact HB.out)) hb); clear HO_11; clear HB; have HO_11 := n0_; have HB := n1_; clear n0_ n1_; (try clear hb); (try clear hb2); (try clear hk); (try clear hi)) | (go_at_call 6; (with_reducible refine (ref20_Right.calls kj28 _ _ t224 true _ ?side1 ?side2 A44.out).mono ?_); (case side1 => repeat (first | exact (Kd.V_reads' HO_11.out).2.2 | (with_reducible refine Kd.C_alloc ?_ _) | (with_reducible refine Kd.C_drewN ?_ _) | (with_reducible refine Kd.C_drew ?_))); (case side2 => exact (Kd.V_reads' HO_11.out).2.1); rintro e w' ⟨rfl, ⟨nd, rfl⟩⟩))
            go_roundg kj28
            case measure => have := HK1.out; have := HJ28.out; omega
            case rel => exact ⟨(t224), (wrap64 (x7_1 + 1)), (by first | rfl | (simp; done) | (simp [*]; done) | (simp [bne_nil_]; done)), H', ⟨by have := HK1.out; have := HJ28.out; omega⟩, ⟨by (with_reducible repeat (first | apply Kd.V_alloc | apply Kd.V_drewN | apply Kd.V_drew)); exact HO_11.out⟩, ⟨by repeat (first | (with_reducible first | exact HB.out | apply below_alloc | apply pw_below_drewN | apply below_drew1) | exact HB.out)⟩⟩
           ·replace c45 := Bool.eq_false_iff.mpr c45
            subst c45
            have H1 : (none) = some r := by rw [if_neg (show ¬ (false = true) by decide)] at H; exact H
            clear H
            have H := H1
            clear H1
            exact absurd H (by simp)
          ·replace c43 := Bool.eq_false_iff.mpr c43
           subst c43
           have H1 : (none) = some r := by rw [if_neg (show ¬ (false = true) by decide)] at H; exact H
           clear H
           have H := H1
           clear H1
           exact absurd H (by simp)
    ·rw [if_neg c6] at H
     have c6b0 : decide (x7_1 < (l0.length : Int)) = false := decide_eq_false c6
     clear c6
     replace H := Option.bind_eq_some_iff.mp H
     obtain ⟨t216, A480, H⟩ := H
     replace H : (some t216) = some r := H
     have A48 := Aside0.mk A480
     clear A480
     obtain rfl := Option.some.inj H
     go_wp2_with (first | ((with_reducible refine gate_callee (f := 7) rfl ?_); refine goesL_ (some 122) rfl rfl Try.func7 (by kernel_rfl) rfl #[] rfl (by (try simp only [List.map_toArray, List.map_cons, List.map_nil]); first | done | rfl | (simp only [List.length_drop, List.length_take]; rfl)) ?_; (with_reducible refine (law20_awake.calls k1  t216 _ A48.out).mono ?_); rintro e w49 ⟨rfl, hb⟩; refine ⟨_, rfl, ?_⟩; have n0_ := Aside0.mk (Kd.V_below (by (with_reducible repeat (first | apply Kd.V_alloc | apply Kd.V_drewN | apply Kd.V_drew)); exact HO_5.out) hb); have n1_ := Aside0.mk (below_step (by repeat (first | (with_reducible first | exact HB.out | apply below_alloc | apply pw_below_drewN | apply below_drew1) | exact HB.out)) hb); clear HO_5; clear HB; have HO_5 := n0_; have HB := n1_; clear n0_ n1_; (try clear hb); (try clear hb2); (try clear hk); (try clear hi)))
     go_ret
     exact ⟨by first | rfl | (simp [errW_none, errW_some] <;> rfl) | (simp [*, errW_none, errW_some] <;> rfl), by repeat (first | (with_reducible first | exact HB.out | apply below_alloc | apply pw_below_drewN | apply below_drew1) | exact HB.out)⟩

/-! ### ref20_Find: function 18 -/
def ref20_Find.l0 : Nat → List (S32) → Int → Int → Option (Int)
 | 0, _, _, _ => none
 | k + 1, x0, x1, x5 => if x5 < (x0.length : Int) then (if 0 ≤ x5 then (if ((rd_T32 x0 x5).f0) = x1 then (some x5) else (ref20_Find.l0 k x0 x1 (wrap64 (x5 + 1)))) else (none)) else (some (-1))
def ref20_Find.f (k : Nat) (l0 : List (S32)) (a1 : Int) : Option (Int) := ref20_Find.l0 k l0 a1 0
theorem ref20_Find.mono_l : ∀ k, (∀ y0 y1 y2, LeO (ref20_Find.l0 k y0 y1 y2) (ref20_Find.l0 (k + 1) y0 y1 y2))
 | 0 => fun _ _ _ r h => by simp [ref20_Find.l0] at h
 | k + 1 => by
  have ih0 := ref20_Find.mono_l k
  ·intro y0 y1 y2
   unfold ref20_Find.l0
   repeat' first
   | (with_reducible exact ih0 _ _ _)
   | (with_reducible exact LeO.refl _)
   | (with_reducible exact LeO.none _)
   | (with_reducible refine LeO.ite ?_ ?_)
   | (with_reducible refine LeO.bind ?_ (fun _ => ?_))
   | exact ih0 _ _ _
   | exact LeO.none _
   | refine LeO.ite ?_ ?_
   | refine LeO.bind ?_ (fun _ => ?_)
theorem ref20_Find.mono : ∀ a0 a1 k, LeO (ref20_Find.f k a0 a1) (ref20_Find.f (k + 1) a0 a1) := by
 intro a0 a1 k
 have ih0 := ref20_Find.mono_l k
 unfold ref20_Find.f
 repeat' first
  | (with_reducible exact ih0 _ _ _)
  | (with_reducible exact LeO.refl _)
  | (with_reducible exact LeO.none _)
  | (with_reducible refine LeO.ite ?_ ?_)
  | (with_reducible refine LeO.bind ?_ (fun _ => ?_))
  | exact ih0 _ _ _
  | exact LeO.none _
  | refine LeO.ite ?_ ?_
  | refine LeO.bind ?_ (fun _ => ?_)
set_option maxHeartbeats 8000000 in
set_option maxRecDepth 100000 in
theorem ref20_Find.calls (k : Nat) (A0 : Option Addr) (c0 : Nat) (l0 : List (S32)) (a1 : Int) (r : Int) (w : World) (hr0 : Kd.C k32 w A0 l0.length l0) (hc0 : l0.length ≤ c0) (h : ref20_Find.f k l0 a1 = some r) :
 Calls Try.prog 18 #[.slice A0 l0.length c0, .int .i64 a1] w fun e w' => e = .returned (.int .i64 r) ∧ Drawn0 w w' := by
 have HR0 := Aside0.mk hr0
 have HC0 := Aside0.mk hc0
 clear hr0 hc0
 have H : (ref20_Find.l0 k l0 a1 0) = some r := h
 clear h
 have H' := Aside0.mk H
 clear H
 go_enter Try.func18, Try.ntmps18
 go_wp2
 go_loopg [5] k (fun kq v5 w' => ∃ (x5_1 : Int), v5 = .int .i64 x5_1 ∧ Aside0 (ref20_Find.l0 kq l0 a1 x5_1 = some r) ∧ Aside0 (kq ≤ k) ∧ Drawn0 w w')
 case atStart => exact ⟨(0), (by first | rfl | (simp; done) | (simp [*]; done) | (simp [bne_nil_]; done)), H', ⟨Nat.le_refl _⟩, by repeat (first | exact Drawn0.refl _ | apply Drawn0.step)⟩
 case round =>
  clear H'
  try clear c1
  try clear p2
  obtain ⟨x5_1, rfl, HA, HK1, ⟨m1, rfl⟩⟩ := hrel
  cases gk with
  | zero => exact absurd HA.out (by simp [ref20_Find.l0])
  | succ k1 =>
   have H := HA.out
   clear HA
   simp only [ref20_Find.l0] at H
   by_cases c3 : x5_1 < (l0.length : Int)
   ·rw [if_pos c3] at H
    have c3b0 : decide (x5_1 < (l0.length : Int)) = true := decide_eq_true c3
    clear c3
    by_cases c4 : 0 ≤ x5_1
    rotate_left
    ·rw [if_neg c4] at H
     exact absurd H (by simp)
    rw [if_pos c4] at H
    have c4b0 : decide (0 ≤ x5_1) = true := decide_eq_true c4
    clear c4
    by_cases c5 : ((rd_T32 l0 x5_1).f0) = a1
    ·rw [if_pos c5] at H
     have c5b0 : (((rd_T32 l0 x5_1).f0) == a1) = true := beq_iff_eq.mpr c5
     have c5b1 : (((rd_T32 l0 x5_1).f0) != a1) = false := bne_eq_false_iff_eq.mpr c5
     clear c5
     obtain rfl := Option.some.inj H
     have p231 : 0 ≤ (x5_1 : Int) := of_decide_eq_true (by first | (with_reducible assumption) | assumption)
     have q231 : x5_1 < (l0.length : Int) := of_decide_eq_true (by first | (with_reducible assumption) | assumption)
     obtain ⟨ad231, A231_10, c231_10, e231, hx231_0, hx231_1, hx231_2, hx231_3, hx231_4, hx231_5, hx231_6, hx231_7, hx231_8, hx231_9, hx231_10, hx231_11, hl231_10, hi231_10⟩ := at_T32 HR0.out x5_1 p231 q231
     cases e231
     have HR231_10 := Aside0.mk hi231_10
     have HC231_10 := Aside0.mk hl231_10
     clear hi231_10 hl231_10
     replace p231 := eq_true p231
     replace q231 := eq_true q231
     go_wp2
     go_ret
     exact ⟨by first | rfl | (simp; done) | (simp [*]; done), by repeat (first | exact Drawn0.refl _ | apply Drawn0.step)⟩
    ·rw [if_neg c5] at H
     have c5b0 : (((rd_T32 l0 x5_1).f0) == a1) = false := beq_eq_false_iff_ne.mpr c5
     have c5b1 : (((rd_T32 l0 x5_1).f0) != a1) = true := bne_iff_ne.mpr c5
     have H' := Aside0.mk H
     clear H
     have p231 : 0 ≤ (x5_1 : Int) := of_decide_eq_true (by first | (with_reducible assumption) | assumption)
     have q231 : x5_1 < (l0.length : Int) := of_decide_eq_true (by first | (with_reducible assumption) | assumption)
     obtain ⟨ad231, A231_10, c231_10, e231, hx231_0, hx231_1, hx231_2, hx231_3, hx231_4, hx231_5, hx231_6, hx231_7, hx231_8, hx231_9, hx231_10, hx231_11, hl231_10, hi231_10⟩ := at_T32 HR0.out x5_1 p231 q231
     cases e231
     have HR231_10 := Aside0.mk hi231_10
     have HC231_10 := Aside0.mk hl231_10
     clear hi231_10 hl231_10
     replace p231 := eq_true p231
     replace q231 := eq_true q231
     go_wp2
     go_roundg k1
     case measure => have := HK1.out; omega
     case rel => exact ⟨(wrap64 (x5_1 + 1)), (by first | rfl | (simp; done) | (simp [*]; done) | (simp [bne_nil_]; done)), H', ⟨by have := HK1.out; omega⟩, by repeat (first | exact Drawn0.refl _ | apply Drawn0.step)⟩
   ·rw [if_neg c3] at H
    have c3b0 : decide (x5_1 < (l0.length : Int)) = false := decide_eq_false c3
    clear c3
    obtain rfl := Option.some.inj H
    go_wp2
    go_ret
    exact ⟨by first | rfl | (simp; done) | (simp [*]; done), by repeat (first | exact Drawn0.refl _ | apply Drawn0.step)⟩

end Go.Proofs.Ytnmloapejbnejaa.P

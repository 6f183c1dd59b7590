-- Written by a program of this session (wip/mkprint.py). Not trusted: Lean checks it.
import Derived.Test.YtgffhdgfloimaaaP0
import Derived.Test.YtgffhdgfloimaaaP2
import Derived.Test.YtgffhdgfloimaaaP3
namespace Go.Proofs.Ytgffhdgfloimaaa.P
open Go.RowKit Go.Proofs.YtgffhdgfloimaaaW.PrintWords Go.Proofs.YtgffhdgfloimaaaW.PrintLast Go.Proofs.YtgffhdgfloimaaaW.PrintMore
attribute [local go_sem] max2_int min2_int max_two min_two max_three min_three max_four min_four   -- for this text's walks alone
set_option linter.unusedVariables false
set_option linter.unusedSimpArgs false

attribute [local go_sem high] eqA34
/-! ### conns_Right: function 10 -/
def conns_Right.l0 : Nat → List (S34) → Int → Int → Option (Bool)
  | 0, _, _, _ => none
  | k + 1, x6, x7, x8 => if x8 < x7 then (if 0 ≤ x8 then (if x8 < (x6.length : Int) then (if ((rd_T34 x6 x8).f2) < 0 then (some false) else (if ((rd_T34 x6 x8).f0 = true) then ((stream_Right.f ((rd_T34 x6 x8).f3.f0) ((rd_T34 x6 x8).f3.f1)).bind fun t146 => (if t146 = true then (conns_Right.l0 k x6 x7 (wrap64 (x8 + 1))) else (some false))) else (if ((!((rd_T34 x6 x8).f0) && (((rd_T34 x6 x8).f1) == 0 && (((((rd_T34 x6 x8).f3.f0).toList) == ([] : List UInt8) && (!((rd_T34 x6 x8).f3.f1)))))) = true) then ((stream_Right.f ((rd_T34 x6 x8).f3.f0) ((rd_T34 x6 x8).f3.f1)).bind fun t147 => (if t147 = true then (conns_Right.l0 k x6 x7 (wrap64 (x8 + 1))) else (some false))) else (some false)))) else (none)) else (none)) else (some true)
def conns_Right.f (k : Nat) (l0 : List (S34)) : Option (Bool) := conns_Right.l0 k l0 (l0.length : Int) 0
theorem conns_Right.mono_l : ∀ k, (∀ y0 y1 y2, LeO (conns_Right.l0 k y0 y1 y2) (conns_Right.l0 (k + 1) y0 y1 y2))
  | 0 => fun _ _ _ r h => by simp [conns_Right.l0] at h
  | k + 1 => by
    have ih0 := conns_Right.mono_l k
    · intro y0 y1 y2
      unfold conns_Right.l0
      repeat' first
      | (with_reducible exact ih0 _ _ _)
      | (with_reducible exact LeO.refl _)
      | (with_reducible exact LeO.none _)
      | (with_reducible refine LeO.ite ?_ ?_)
      | (with_reducible refine LeO.bind ?_ (fun _ => ?_))
      | exact ih0 _ _ _
      | exact LeO.none _
      | refine LeO.ite ?_ ?_
      | refine LeO.bind ?_ (fun _ => ?_)
theorem conns_Right.mono : ∀ a0 k, LeO (conns_Right.f k a0) (conns_Right.f (k + 1) a0) := by
  intro a0 k
  have ih0 := conns_Right.mono_l k
  unfold conns_Right.f
  repeat' first
      | (with_reducible exact ih0 _ _ _)
      | (with_reducible exact LeO.refl _)
      | (with_reducible exact LeO.none _)
      | (with_reducible refine LeO.ite ?_ ?_)
      | (with_reducible refine LeO.bind ?_ (fun _ => ?_))
      | exact ih0 _ _ _
      | exact LeO.none _
      | refine LeO.ite ?_ ?_
      | refine LeO.bind ?_ (fun _ => ?_)
set_option maxHeartbeats 8000000 in
set_option maxRecDepth 100000 in
theorem conns_Right.calls (k : Nat) (A0 : Option Addr) (c0 : Nat) (l0 : List (S34)) (r : Bool) (w : World) (hr0 : Kd.C k34 w A0 l0.length l0) (hc0 : l0.length ≤ c0) (h : conns_Right.f k l0 = some r) :
    Calls Try.prog 10 #[.slice A0 l0.length c0] w fun e w' => e = .returned (.bool r) ∧ Below w.heap.size w w' := by
  have hu34 := Try.underlying34
  have hu32 := Try.underlying32
  have HR0 := Aside0.mk hr0
  have HC0 := Aside0.mk hc0
  clear hr0 hc0
  have HB := Aside0.mk (Below.refl w.heap.size w)
  have H : (conns_Right.l0 k l0 (l0.length : Int) 0) = some r := h
  clear h
  have H' := Aside0.mk H
  clear H
  go_enter Try.func10, Try.ntmps10
  go_wp2
  go_loopg [8] k (fun kq v8 w' => ∃ (x8_1 : Int), v8 = .int .i64 x8_1 ∧ Aside0 (conns_Right.l0 kq l0 (l0.length : Int) x8_1 = some r) ∧ Aside0 (kq ≤ k) ∧ Aside0 (Below w.heap.size w w'))
  case atStart => exact ⟨(0), (by first | rfl | (simp; done) | (simp [*]; done) | (simp [bne_nil_]; done)), H', ⟨Nat.le_refl _⟩, ⟨by repeat (first | (with_reducible first | exact HB.out | apply below_alloc | apply pw_below_drewN | apply below_drew1) | exact HB.out)⟩⟩
  case round =>
    clear H'
    try clear c1
    obtain ⟨x8_1, rfl, HA, HK1, HB⟩ := hrel
    cases gk with
    | zero => exact absurd HA.out (by simp [conns_Right.l0])
    | succ k1 =>
      have H := HA.out
      clear HA
      simp only [conns_Right.l0] at H
      by_cases c2 : x8_1 < (l0.length : Int)
      · rw [if_pos c2] at H
        have c2b0 : decide (x8_1 < (l0.length : Int)) = true := decide_eq_true c2
        clear c2
        by_cases c3 : 0 ≤ x8_1
        · rw [if_pos c3] at H
          have c3b0 : decide (0 ≤ x8_1) = true := decide_eq_true c3
          clear c3
          by_cases c4 : x8_1 < (l0.length : Int)
          · rw [if_pos c4] at H
            have c4b0 : decide (x8_1 < (l0.length : Int)) = true := decide_eq_true c4
            clear c4
            by_cases c5 : ((rd_T34 l0 x8_1).f2) < 0
            · rw [if_pos c5] at H
              have c5b0 : decide (((rd_T34 l0 x8_1).f2) < 0) = true := decide_eq_true c5
              clear c5
              obtain rfl := Option.some.inj H
              have p144 : 0 ≤ (x8_1 : Int) := of_decide_eq_true (by first | (with_reducible assumption) | assumption)
              have q144 : x8_1 < (l0.length : Int) := of_decide_eq_true (by first | (with_reducible assumption) | assumption)
              obtain ⟨ad144, e144, hx144_0, hx144_1, hx144_2, hx144_3, hx144_4⟩ := at_T34 HR0.out x8_1 p144 q144
              cases e144
              replace hx144_0 := (HB.out.cell (World.block_lt_of_cell? w _ hx144_0)).trans hx144_0
              replace hx144_1 := (HB.out.cell (World.block_lt_of_cell? w _ hx144_1)).trans hx144_1
              replace hx144_2 := (HB.out.cell (World.block_lt_of_cell? w _ hx144_2)).trans hx144_2
              replace hx144_3 := (HB.out.cell (World.block_lt_of_cell? w _ hx144_3)).trans hx144_3
              replace hx144_4 := (HB.out.cell (World.block_lt_of_cell? w _ hx144_4)).trans hx144_4
              replace p144 := eq_true p144
              replace q144 := eq_true q144
              go_wp2_with (first | ((with_reducible refine gate_dst (N := 4) rfl ?_); refine box_event ?hg (N := 4) ?hd (cs := #[.bool false, .int .i64 0, .int .i64 0, .string (⟨#[]⟩ : ByteArray), .bool false]) (t := 34) ?hr ?_; (case hd => rfl); (case hg => rfl); (case hr => first | (go_simp; done) | (go_simp; rfl)); intro gb145 hg w6 hbox hb; have n0_ := Aside0.mk (below_step (by repeat (first | (with_reducible first | exact HB.out | apply below_alloc | apply pw_below_drewN | apply below_drew1) | exact HB.out)) hb); have n1_ := Aside0.mk ((show IsS34 w w6 gb145 false 0 0 (⟨#[]⟩ : ByteArray) false from ⟨hbox, by rw [hg]; exact (below_size (by repeat (first | (with_reducible first | exact HB.out | apply below_alloc | apply pw_below_drewN | apply below_drew1) | exact HB.out)))⟩)); clear HB; have HB := n0_; have HI145 := n1_; clear n0_ n1_; clear hb hbox hg; obtain ⟨HGz7, hgz7⟩ := HI145.out; have hcz7_0 := cellS34_0 HGz7; have hcz7_1 := cellS34_1 HGz7; have hcz7_2 := cellS34_2 HGz7; have hcz7_3 := cellS34_3 HGz7; have hcz7_4 := cellS34_4 HGz7; have hfz7_0 := blk_frozen HGz7 0; have hfz7_1 := blk_frozen HGz7 1; have hfz7_2 := blk_frozen HGz7 2; have hfz7_3 := blk_frozen HGz7 3; have hfz7_4 := blk_frozen HGz7 4; clear HGz7 hgz7))
              go_ret
              exact ⟨by first | rfl | (simp [errW_none, errW_some] <;> rfl) | (simp [*, errW_none, errW_some] <;> rfl), by repeat (first | (with_reducible first | exact HB.out | apply below_alloc | apply pw_below_drewN | apply below_drew1 | refine below_set ?_ (IsS34.ge HI145.out)) | exact HB.out)⟩
            · rw [if_neg c5] at H
              have c5b0 : decide (((rd_T34 l0 x8_1).f2) < 0) = false := decide_eq_false c5
              clear c5
              obtain ⟨⟨s0, s1, s2, ⟨s3, s4⟩⟩, hs⟩ : ∃ s : S34, s = rd_T34 l0 x8_1 := ⟨_, rfl⟩
              rw [← hs] at H
              (try rw [← hs] at c5b0)
              dsimp only at H
              (try dsimp only at c5b0)
              obtain ⟨bq8, hbq8⟩ : ∃ b_ : Bool, b_ = (s0) := ⟨_, rfl⟩
              replace H : (if (bq8 = true) then ((stream_Right.f (s3) (s4)).bind fun t146 => (if t146 = true then (conns_Right.l0 k1 l0 (l0.length : Int) (wrap64 (x8_1 + 1))) else (some false))) else (if ((!(bq8) && ((s1) == 0 && ((((s3).toList) == ([] : List UInt8) && (!(s4)))))) = true) then ((stream_Right.f (s3) (s4)).bind fun t147 => (if t147 = true then (conns_Right.l0 k1 l0 (l0.length : Int) (wrap64 (x8_1 + 1))) else (some false))) else (some false))) = some r := by rw [← hbq8] at H; exact H
              have Nbq8 := Aside0.mk hbq8
              clear hbq8
              by_cases c9 : (bq8 = true)
              · subst c9
                have H1 : ((stream_Right.f (s3) (s4)).bind fun t146 => (if t146 = true then (conns_Right.l0 k1 l0 (l0.length : Int) (wrap64 (x8_1 + 1))) else (some false))) = some r := by rw [if_pos rfl] at H; exact H
                clear H
                have H := H1
                clear H1
                replace H := Option.bind_eq_some_iff.mp H
                obtain ⟨t146, A100, H⟩ := H
                replace H : (if t146 = true then (conns_Right.l0 k1 l0 (l0.length : Int) (wrap64 (x8_1 + 1))) else (some false)) = some r := H
                have A10 := Aside0.mk A100
                clear A100
                by_cases c11 : t146 = true
                · subst c11
                  have H1 : (conns_Right.l0 k1 l0 (l0.length : Int) (wrap64 (x8_1 + 1))) = some r := by rw [if_pos rfl] at H; exact H
                  clear H
                  have H := H1
                  clear H1
                  have H' := Aside0.mk H
                  clear H
                  have p144 : 0 ≤ (x8_1 : Int) := of_decide_eq_true (by first | (with_reducible assumption) | assumption)
                  have q144 : x8_1 < (l0.length : Int) := of_decide_eq_true (by first | (with_reducible assumption) | assumption)
                  obtain ⟨ad144, e144, hx144_0, hx144_1, hx144_2, hx144_3, hx144_4⟩ := at_T34 HR0.out x8_1 p144 q144
                  rw [← hs] at hx144_0 hx144_1 hx144_2 hx144_3 hx144_4
                  dsimp only at hx144_0 hx144_1 hx144_2 hx144_3 hx144_4
                  (try rw [← Nbq8.out] at hx144_0)
                  (try rw [← Nbq8.out] at hx144_4)
                  cases e144
                  replace hx144_0 := (HB.out.cell (World.block_lt_of_cell? w _ hx144_0)).trans hx144_0
                  replace hx144_1 := (HB.out.cell (World.block_lt_of_cell? w _ hx144_1)).trans hx144_1
                  replace hx144_2 := (HB.out.cell (World.block_lt_of_cell? w _ hx144_2)).trans hx144_2
                  replace hx144_3 := (HB.out.cell (World.block_lt_of_cell? w _ hx144_3)).trans hx144_3
                  replace hx144_4 := (HB.out.cell (World.block_lt_of_cell? w _ hx144_4)).trans hx144_4
                  replace p144 := eq_true p144
                  replace q144 := eq_true q144
                  go_wp2_with (first | ((with_reducible refine gate_dst (N := 4) rfl ?_); refine box_event ?hg (N := 4) ?hd (cs := #[.bool false, .int .i64 0, .int .i64 0, .string (⟨#[]⟩ : ByteArray), .bool false]) (t := 34) ?hr ?_; (case hd => rfl); (case hg => rfl); (case hr => first | (go_simp; done) | (go_simp; rfl)); intro gb145 hg w12 hbox hb; have n0_ := Aside0.mk (below_step (by repeat (first | (with_reducible first | exact HB.out | apply below_alloc | apply pw_below_drewN | apply below_drew1) | exact HB.out)) hb); have n1_ := Aside0.mk ((show IsS34 w w12 gb145 false 0 0 (⟨#[]⟩ : ByteArray) false from ⟨hbox, by rw [hg]; exact (below_size (by repeat (first | (with_reducible first | exact HB.out | apply below_alloc | apply pw_below_drewN | apply below_drew1) | exact HB.out)))⟩)); clear HB; have HB := n0_; have HI145 := n1_; clear n0_ n1_; clear hb hbox hg; obtain ⟨HGz13, hgz13⟩ := HI145.out; have hcz13_0 := cellS34_0 HGz13; have hcz13_1 := cellS34_1 HGz13; have hcz13_2 := cellS34_2 HGz13; have hcz13_3 := cellS34_3 HGz13; have hcz13_4 := cellS34_4 HGz13; have hfz13_0 := blk_frozen HGz13 0; have hfz13_1 := blk_frozen HGz13 1; have hfz13_2 := blk_frozen HGz13 2; have hfz13_3 := blk_frozen HGz13 3; have hfz13_4 := blk_frozen HGz13 4; clear HGz13 hgz13) | (go_at_call 19; (with_reducible refine (stream_Right.calls (s3) (s4) true _ A10.out).mono ?_); rintro e w14 ⟨rfl, hb⟩; have n0_ := Aside0.mk (IsS34.below (show IsS34 w (((((w12.setCell ⟨gb145, 0, none⟩ (.bool true)).setCell ⟨gb145, 1, none⟩ (.int .i64 (s1))).setCell ⟨gb145, 2, none⟩ (.int .i64 (s2))).setCell ⟨gb145, 3, none⟩ (.string (s3))).setCell ⟨gb145, 4, none⟩ (.bool (s4))) gb145 true (s1) (s2) (s3) (s4) from by repeat (first | (with_reducible first | exact HI145.out | apply IsS34.alloc | apply IsS34.drewN | apply IsS34.drew | apply IsS34.set_0 | apply IsS34.set_1 | apply IsS34.set_2 | apply IsS34.set_3 | apply IsS34.set_4) | exact HI145.out)) hb); have n1_ := Aside0.mk (below_step (by repeat (first | (with_reducible first | exact HB.out | apply below_alloc | apply pw_below_drewN | apply below_drew1 | refine below_set ?_ (IsS34.ge HI145.out)) | exact HB.out)) hb); clear HI145; clear HB; have HI145 := n0_; have HB := n1_; clear n0_ n1_; (try clear hb); (try clear hb2); (try clear hk); (try clear hi)))
                  go_roundg k1
                  case measure => have := HK1.out; omega
                  case rel => exact ⟨(wrap64 (x8_1 + 1)), (by first | rfl | (simp; done) | (simp [*]; done) | (simp [bne_nil_]; done)), H', ⟨by have := HK1.out; omega⟩, ⟨by repeat (first | (with_reducible first | exact HB.out | apply below_alloc | apply pw_below_drewN | apply below_drew1 | refine below_set ?_ (IsS34.ge HI145.out)) | exact HB.out)⟩⟩
                · replace c11 := Bool.eq_false_iff.mpr c11
                  subst c11
                  have H1 : (some false) = some r := by rw [if_neg (show ¬ (false = true) by decide)] at H; exact H
                  clear H
                  have H := H1
                  clear H1
                  obtain rfl := Option.some.inj H
                  have p144 : 0 ≤ (x8_1 : Int) := of_decide_eq_true (by first | (with_reducible assumption) | assumption)
                  have q144 : x8_1 < (l0.length : Int) := of_decide_eq_true (by first | (with_reducible assumption) | assumption)
                  obtain ⟨ad144, e144, hx144_0, hx144_1, hx144_2, hx144_3, hx144_4⟩ := at_T34 HR0.out x8_1 p144 q144
                  rw [← hs] at hx144_0 hx144_1 hx144_2 hx144_3 hx144_4
                  dsimp only at hx144_0 hx144_1 hx144_2 hx144_3 hx144_4
                  (try rw [← Nbq8.out] at hx144_0)
                  (try rw [← Nbq8.out] at hx144_4)
                  cases e144
                  replace hx144_0 := (HB.out.cell (World.block_lt_of_cell? w _ hx144_0)).trans hx144_0
                  replace hx144_1 := (HB.out.cell (World.block_lt_of_cell? w _ hx144_1)).trans hx144_1
                  replace hx144_2 := (HB.out.cell (World.block_lt_of_cell? w _ hx144_2)).trans hx144_2
                  replace hx144_3 := (HB.out.cell (World.block_lt_of_cell? w _ hx144_3)).trans hx144_3
                  replace hx144_4 := (HB.out.cell (World.block_lt_of_cell? w _ hx144_4)).trans hx144_4
                  replace p144 := eq_true p144
                  replace q144 := eq_true q144
                  go_wp2_with (first | ((with_reducible refine gate_dst (N := 4) rfl ?_); refine box_event ?hg (N := 4) ?hd (cs := #[.bool false, .int .i64 0, .int .i64 0, .string (⟨#[]⟩ : ByteArray), .bool false]) (t := 34) ?hr ?_; (case hd => rfl); (case hg => rfl); (case hr => first | (go_simp; done) | (go_simp; rfl)); intro gb145 hg w15 hbox hb; have n0_ := Aside0.mk (below_step (by repeat (first | (with_reducible first | exact HB.out | apply below_alloc | apply pw_below_drewN | apply below_drew1) | exact HB.out)) hb); have n1_ := Aside0.mk ((show IsS34 w w15 gb145 false 0 0 (⟨#[]⟩ : ByteArray) false from ⟨hbox, by rw [hg]; exact (below_size (by repeat (first | (with_reducible first | exact HB.out | apply below_alloc | apply pw_below_drewN | apply below_drew1) | exact HB.out)))⟩)); clear HB; have HB := n0_; have HI145 := n1_; clear n0_ n1_; clear hb hbox hg; obtain ⟨HGz16, hgz16⟩ := HI145.out; have hcz16_0 := cellS34_0 HGz16; have hcz16_1 := cellS34_1 HGz16; have hcz16_2 := cellS34_2 HGz16; have hcz16_3 := cellS34_3 HGz16; have hcz16_4 := cellS34_4 HGz16; have hfz16_0 := blk_frozen HGz16 0; have hfz16_1 := blk_frozen HGz16 1; have hfz16_2 := blk_frozen HGz16 2; have hfz16_3 := blk_frozen HGz16 3; have hfz16_4 := blk_frozen HGz16 4; clear HGz16 hgz16) | (go_at_call 19; (with_reducible refine (stream_Right.calls (s3) (s4) false _ A10.out).mono ?_); rintro e w17 ⟨rfl, hb⟩; have n0_ := Aside0.mk (IsS34.below (show IsS34 w (((((w15.setCell ⟨gb145, 0, none⟩ (.bool true)).setCell ⟨gb145, 1, none⟩ (.int .i64 (s1))).setCell ⟨gb145, 2, none⟩ (.int .i64 (s2))).setCell ⟨gb145, 3, none⟩ (.string (s3))).setCell ⟨gb145, 4, none⟩ (.bool (s4))) gb145 true (s1) (s2) (s3) (s4) from by repeat (first | (with_reducible first | exact HI145.out | apply IsS34.alloc | apply IsS34.drewN | apply IsS34.drew | apply IsS34.set_0 | apply IsS34.set_1 | apply IsS34.set_2 | apply IsS34.set_3 | apply IsS34.set_4) | exact HI145.out)) hb); have n1_ := Aside0.mk (below_step (by repeat (first | (with_reducible first | exact HB.out | apply below_alloc | apply pw_below_drewN | apply below_drew1 | refine below_set ?_ (IsS34.ge HI145.out)) | exact HB.out)) hb); clear HI145; clear HB; have HI145 := n0_; have HB := n1_; clear n0_ n1_; (try clear hb); (try clear hb2); (try clear hk); (try clear hi)))
                  go_ret
                  exact ⟨by first | rfl | (simp [errW_none, errW_some] <;> rfl) | (simp [*, errW_none, errW_some] <;> rfl), by repeat (first | (with_reducible first | exact HB.out | apply below_alloc | apply pw_below_drewN | apply below_drew1 | refine below_set ?_ (IsS34.ge HI145.out)) | exact HB.out)⟩
              · replace c9 := Bool.eq_false_iff.mpr c9
                subst c9
                have H1 : (if ((!(false) && ((s1) == 0 && ((((s3).toList) == ([] : List UInt8) && (!(s4)))))) = true) then ((stream_Right.f (s3) (s4)).bind fun t147 => (if t147 = true then (conns_Right.l0 k1 l0 (l0.length : Int) (wrap64 (x8_1 + 1))) else (some false))) else (some false)) = some r := by rw [if_neg (show ¬ (false = true) by decide)] at H; exact H
                clear H
                have H := H1
                clear H1
                by_cases c18 : ((!(false) && ((s1) == 0 && ((((s3).toList) == ([] : List UInt8) && (!(s4)))))) = true)
                · rw [if_pos c18] at H
                  simp only [Bool.not_false, Bool.true_and, Bool.and_eq_true, beq_iff_eq, Bool.not_eq_true', Bool.not_eq_eq_eq_not, Bool.not_true, toList_nil_iff_] at c18
                  obtain ⟨rfl, rfl, rfl⟩ := c18
                  replace H := Option.bind_eq_some_iff.mp H
                  obtain ⟨t147, A190, H⟩ := H
                  replace H : (if t147 = true then (conns_Right.l0 k1 l0 (l0.length : Int) (wrap64 (x8_1 + 1))) else (some false)) = some r := H
                  have A19 := Aside0.mk A190
                  clear A190
                  by_cases c20 : t147 = true
                  · subst c20
                    have H1 : (conns_Right.l0 k1 l0 (l0.length : Int) (wrap64 (x8_1 + 1))) = some r := by rw [if_pos rfl] at H; exact H
                    clear H
                    have H := H1
                    clear H1
                    have H' := Aside0.mk H
                    clear H
                    have p144 : 0 ≤ (x8_1 : Int) := of_decide_eq_true (by first | (with_reducible assumption) | assumption)
                    have q144 : x8_1 < (l0.length : Int) := of_decide_eq_true (by first | (with_reducible assumption) | assumption)
                    obtain ⟨ad144, e144, hx144_0, hx144_1, hx144_2, hx144_3, hx144_4⟩ := at_T34 HR0.out x8_1 p144 q144
                    rw [← hs] at hx144_0 hx144_1 hx144_2 hx144_3 hx144_4
                    dsimp only at hx144_0 hx144_1 hx144_2 hx144_3 hx144_4
                    (try rw [← Nbq8.out] at hx144_0)
                    (try rw [← Nbq8.out] at hx144_4)
                    cases e144
                    replace hx144_0 := (HB.out.cell (World.block_lt_of_cell? w _ hx144_0)).trans hx144_0
                    replace hx144_1 := (HB.out.cell (World.block_lt_of_cell? w _ hx144_1)).trans hx144_1
                    replace hx144_2 := (HB.out.cell (World.block_lt_of_cell? w _ hx144_2)).trans hx144_2
                    replace hx144_3 := (HB.out.cell (World.block_lt_of_cell? w _ hx144_3)).trans hx144_3
                    replace hx144_4 := (HB.out.cell (World.block_lt_of_cell? w _ hx144_4)).trans hx144_4
                    replace p144 := eq_true p144
                    replace q144 := eq_true q144
                    go_wp2_with (first | ((with_reducible refine gate_dst (N := 4) rfl ?_); refine box_event ?hg (N := 4) ?hd (cs := #[.bool false, .int .i64 0, .int .i64 0, .string (⟨#[]⟩ : ByteArray), .bool false]) (t := 34) ?hr ?_; (case hd => rfl); (case hg => rfl); (case hr => first | (go_simp; done) | (go_simp; rfl)); intro gb145 hg w21 hbox hb; have n0_ := Aside0.mk (below_step (by repeat (first | (with_reducible first | exact HB.out | apply below_alloc | apply pw_below_drewN | apply below_drew1) | exact HB.out)) hb); have n1_ := Aside0.mk ((show IsS34 w w21 gb145 false 0 0 (⟨#[]⟩ : ByteArray) false from ⟨hbox, by rw [hg]; exact (below_size (by repeat (first | (with_reducible first | exact HB.out | apply below_alloc | apply pw_below_drewN | apply below_drew1) | exact HB.out)))⟩)); clear HB; have HB := n0_; have HI145 := n1_; clear n0_ n1_; clear hb hbox hg; obtain ⟨HGz22, hgz22⟩ := HI145.out; have hcz22_0 := cellS34_0 HGz22; have hcz22_1 := cellS34_1 HGz22; have hcz22_2 := cellS34_2 HGz22; have hcz22_3 := cellS34_3 HGz22; have hcz22_4 := cellS34_4 HGz22; have hfz22_0 := blk_frozen HGz22 0; have hfz22_1 := blk_frozen HGz22 1; have hfz22_2 := blk_frozen HGz22 2; have hfz22_3 := blk_frozen HGz22 3; have hfz22_4 := blk_frozen HGz22 4; clear HGz22 hgz22) | (go_at_call 19; (with_reducible refine (stream_Right.calls ((⟨#[]⟩ : ByteArray)) (false) true _ A19.out).mono ?_); rintro e w23 ⟨rfl, hb⟩; have n0_ := Aside0.mk (IsS34.below (show IsS34 w (((((w21.setCell ⟨gb145, 0, none⟩ (.bool false)).setCell ⟨gb145, 1, none⟩ (.int .i64 (0))).setCell ⟨gb145, 2, none⟩ (.int .i64 (s2))).setCell ⟨gb145, 3, none⟩ (.string ((⟨#[]⟩ : ByteArray)))).setCell ⟨gb145, 4, none⟩ (.bool (false))) gb145 false (0) (s2) ((⟨#[]⟩ : ByteArray)) (false) from by repeat (first | (with_reducible first | exact HI145.out | apply IsS34.alloc | apply IsS34.drewN | apply IsS34.drew | apply IsS34.set_0 | apply IsS34.set_1 | apply IsS34.set_2 | apply IsS34.set_3 | apply IsS34.set_4) | exact HI145.out)) hb); have n1_ := Aside0.mk (below_step (by repeat (first | (with_reducible first | exact HB.out | apply below_alloc | apply pw_below_drewN | apply below_drew1 | refine below_set ?_ (IsS34.ge HI145.out)) | exact HB.out)) hb); clear HI145; clear HB; have HI145 := n0_; have HB := n1_; clear n0_ n1_; (try clear hb); (try clear hb2); (try clear hk); (try clear hi)))
                    go_roundg k1
                    case measure => have := HK1.out; omega
                    case rel => exact ⟨(wrap64 (x8_1 + 1)), (by first | rfl | (simp; done) | (simp [*]; done) | (simp [bne_nil_]; done)), H', ⟨by have := HK1.out; omega⟩, ⟨by repeat (first | (with_reducible first | exact HB.out | apply below_alloc | apply pw_below_drewN | apply below_drew1 | refine below_set ?_ (IsS34.ge HI145.out)) | exact HB.out)⟩⟩
                  · replace c20 := Bool.eq_false_iff.mpr c20
                    subst c20
                    have H1 : (some false) = some r := by rw [if_neg (show ¬ (false = true) by decide)] at H; exact H
                    clear H
                    have H := H1
                    clear H1
                    obtain rfl := Option.some.inj H
                    have p144 : 0 ≤ (x8_1 : Int) := of_decide_eq_true (by first | (with_reducible assumption) | assumption)
                    have q144 : x8_1 < (l0.length : Int) := of_decide_eq_true (by first | (with_reducible assumption) | assumption)
                    obtain ⟨ad144, e144, hx144_0, hx144_1, hx144_2, hx144_3, hx144_4⟩ := at_T34 HR0.out x8_1 p144 q144
                    rw [← hs] at hx144_0 hx144_1 hx144_2 hx144_3 hx144_4
                    dsimp only at hx144_0 hx144_1 hx144_2 hx144_3 hx144_4
                    (try rw [← Nbq8.out] at hx144_0)
                    (try rw [← Nbq8.out] at hx144_4)
                    cases e144
                    replace hx144_0 := (HB.out.cell (World.block_lt_of_cell? w _ hx144_0)).trans hx144_0
                    replace hx144_1 := (HB.out.cell (World.block_lt_of_cell? w _ hx144_1)).trans hx144_1
                    replace hx144_2 := (HB.out.cell (World.block_lt_of_cell? w _ hx144_2)).trans hx144_2
                    replace hx144_3 := (HB.out.cell (World.block_lt_of_cell? w _ hx144_3)).trans hx144_3
                    replace hx144_4 := (HB.out.cell (World.block_lt_of_cell? w _ hx144_4)).trans hx144_4
                    replace p144 := eq_true p144
                    replace q144 := eq_true q144
                    go_wp2_with (first | ((with_reducible refine gate_dst (N := 4) rfl ?_); refine box_event ?hg (N := 4) ?hd (cs := #[.bool false, .int .i64 0, .int .i64 0, .string (⟨#[]⟩ : ByteArray), .bool false]) (t := 34) ?hr ?_; (case hd => rfl); (case hg => rfl); (case hr => first | (go_simp; done) | (go_simp; rfl)); intro gb145 hg w24 hbox hb; have n0_ := Aside0.mk (below_step (by repeat (first | (with_reducible first | exact HB.out | apply below_alloc | apply pw_below_drewN | apply below_drew1) | exact HB.out)) hb); have n1_ := Aside0.mk ((show IsS34 w w24 gb145 false 0 0 (⟨#[]⟩ : ByteArray) false from ⟨hbox, by rw [hg]; exact (below_size (by repeat (first | (with_reducible first | exact HB.out | apply below_alloc | apply pw_below_drewN | apply below_drew1) | exact HB.out)))⟩)); clear HB; have HB := n0_; have HI145 := n1_; clear n0_ n1_; clear hb hbox hg; obtain ⟨HGz25, hgz25⟩ := HI145.out; have hcz25_0 := cellS34_0 HGz25; have hcz25_1 := cellS34_1 HGz25; have hcz25_2 := cellS34_2 HGz25; have hcz25_3 := cellS34_3 HGz25; have hcz25_4 := cellS34_4 HGz25; have hfz25_0 := blk_frozen HGz25 0; have hfz25_1 := blk_frozen HGz25 1; have hfz25_2 := blk_frozen HGz25 2; have hfz25_3 := blk_frozen HGz25 3; have hfz25_4 := blk_frozen HGz25 4; clear HGz25 hgz25) | (go_at_call 19; (with_reducible refine (stream_Right.calls ((⟨#[]⟩ : ByteArray)) (false) false _ A19.out).mono ?_); rintro e w26 ⟨rfl, hb⟩; have n0_ := Aside0.mk (IsS34.below (show IsS34 w (((((w24.setCell ⟨gb145, 0, none⟩ (.bool false)).setCell ⟨gb145, 1, none⟩ (.int .i64 (0))).setCell ⟨gb145, 2, none⟩ (.int .i64 (s2))).setCell ⟨gb145, 3, none⟩ (.string ((⟨#[]⟩ : ByteArray)))).setCell ⟨gb145, 4, none⟩ (.bool (false))) gb145 false (0) (s2) ((⟨#[]⟩ : ByteArray)) (false) from by repeat (first | (with_reducible first | exact HI145.out | apply IsS34.alloc | apply IsS34.drewN | apply IsS34.drew | apply IsS34.set_0 | apply IsS34.set_1 | apply IsS34.set_2 | apply IsS34.set_3 | apply IsS34.set_4) | exact HI145.out)) hb); have n1_ := Aside0.mk (below_step (by repeat (first | (with_reducible first | exact HB.out | apply below_alloc | apply pw_below_drewN | apply below_drew1 | refine below_set ?_ (IsS34.ge HI145.out)) | exact HB.out)) hb); clear HI145; clear HB; have HI145 := n0_; have HB := n1_; clear n0_ n1_; (try clear hb); (try clear hb2); (try clear hk); (try clear hi)))
                    go_ret
                    exact ⟨by first | rfl | (simp [errW_none, errW_some] <;> rfl) | (simp [*, errW_none, errW_some] <;> rfl), by repeat (first | (with_reducible first | exact HB.out | apply below_alloc | apply pw_below_drewN | apply below_drew1 | refine below_set ?_ (IsS34.ge HI145.out)) | exact HB.out)⟩
                · rw [if_neg c18] at H
                  by_cases e1_ : s1 = 0
                  · obtain rfl := e1_
                    cases s4 with
                    | true =>
                      clear c18
                      obtain rfl := Option.some.inj H
                      have p144 : 0 ≤ (x8_1 : Int) := of_decide_eq_true (by first | (with_reducible assumption) | assumption)
                      have q144 : x8_1 < (l0.length : Int) := of_decide_eq_true (by first | (with_reducible assumption) | assumption)
                      obtain ⟨ad144, e144, hx144_0, hx144_1, hx144_2, hx144_3, hx144_4⟩ := at_T34 HR0.out x8_1 p144 q144
                      rw [← hs] at hx144_0 hx144_1 hx144_2 hx144_3 hx144_4
                      dsimp only at hx144_0 hx144_1 hx144_2 hx144_3 hx144_4
                      (try rw [← Nbq8.out] at hx144_0)
                      (try rw [← Nbq8.out] at hx144_4)
                      cases e144
                      replace hx144_0 := (HB.out.cell (World.block_lt_of_cell? w _ hx144_0)).trans hx144_0
                      replace hx144_1 := (HB.out.cell (World.block_lt_of_cell? w _ hx144_1)).trans hx144_1
                      replace hx144_2 := (HB.out.cell (World.block_lt_of_cell? w _ hx144_2)).trans hx144_2
                      replace hx144_3 := (HB.out.cell (World.block_lt_of_cell? w _ hx144_3)).trans hx144_3
                      replace hx144_4 := (HB.out.cell (World.block_lt_of_cell? w _ hx144_4)).trans hx144_4
                      replace p144 := eq_true p144
                      replace q144 := eq_true q144
                      go_wp2_with (first | ((with_reducible refine gate_dst (N := 4) rfl ?_); refine box_event ?hg (N := 4) ?hd (cs := #[.bool false, .int .i64 0, .int .i64 0, .string (⟨#[]⟩ : ByteArray), .bool false]) (t := 34) ?hr ?_; (case hd => rfl); (case hg => rfl); (case hr => first | (go_simp; done) | (go_simp; rfl)); intro gb145 hg w27 hbox hb; have n0_ := Aside0.mk (below_step (by repeat (first | (with_reducible first | exact HB.out | apply below_alloc | apply pw_below_drewN | apply below_drew1) | exact HB.out)) hb); have n1_ := Aside0.mk ((show IsS34 w w27 gb145 false 0 0 (⟨#[]⟩ : ByteArray) false from ⟨hbox, by rw [hg]; exact (below_size (by repeat (first | (with_reducible first | exact HB.out | apply below_alloc | apply pw_below_drewN | apply below_drew1) | exact HB.out)))⟩)); clear HB; have HB := n0_; have HI145 := n1_; clear n0_ n1_; clear hb hbox hg; obtain ⟨HGz28, hgz28⟩ := HI145.out; have hcz28_0 := cellS34_0 HGz28; have hcz28_1 := cellS34_1 HGz28; have hcz28_2 := cellS34_2 HGz28; have hcz28_3 := cellS34_3 HGz28; have hcz28_4 := cellS34_4 HGz28; have hfz28_0 := blk_frozen HGz28 0; have hfz28_1 := blk_frozen HGz28 1; have hfz28_2 := blk_frozen HGz28 2; have hfz28_3 := blk_frozen HGz28 3; have hfz28_4 := blk_frozen HGz28 4; clear HGz28 hgz28))
                      go_ret
                      exact ⟨by first | rfl | (simp [errW_none, errW_some] <;> rfl) | (simp [*, errW_none, errW_some] <;> rfl), by repeat (first | (with_reducible first | exact HB.out | apply below_alloc | apply pw_below_drewN | apply below_drew1 | refine below_set ?_ (IsS34.ge HI145.out)) | exact HB.out)⟩
                    | false =>
                      have c18b0 : (s3.toList == ([] : List UInt8)) = false := by simpa using c18
                      clear c18
                      obtain rfl := Option.some.inj H
                      have p144 : 0 ≤ (x8_1 : Int) := of_decide_eq_true (by first | (with_reducible assumption) | assumption)
                      have q144 : x8_1 < (l0.length : Int) := of_decide_eq_true (by first | (with_reducible assumption) | assumption)
                      obtain ⟨ad144, e144, hx144_0, hx144_1, hx144_2, hx144_3, hx144_4⟩ := at_T34 HR0.out x8_1 p144 q144
                      rw [← hs] at hx144_0 hx144_1 hx144_2 hx144_3 hx144_4
                      dsimp only at hx144_0 hx144_1 hx144_2 hx144_3 hx144_4
                      (try rw [← Nbq8.out] at hx144_0)
                      (try rw [← Nbq8.out] at hx144_4)
                      cases e144
                      replace hx144_0 := (HB.out.cell (World.block_lt_of_cell? w _ hx144_0)).trans hx144_0
                      replace hx144_1 := (HB.out.cell (World.block_lt_of_cell? w _ hx144_1)).trans hx144_1
                      replace hx144_2 := (HB.out.cell (World.block_lt_of_cell? w _ hx144_2)).trans hx144_2
                      replace hx144_3 := (HB.out.cell (World.block_lt_of_cell? w _ hx144_3)).trans hx144_3
                      replace hx144_4 := (HB.out.cell (World.block_lt_of_cell? w _ hx144_4)).trans hx144_4
                      replace p144 := eq_true p144
                      replace q144 := eq_true q144
                      go_wp2_with (first | ((with_reducible refine gate_dst (N := 4) rfl ?_); refine box_event ?hg (N := 4) ?hd (cs := #[.bool false, .int .i64 0, .int .i64 0, .string (⟨#[]⟩ : ByteArray), .bool false]) (t := 34) ?hr ?_; (case hd => rfl); (case hg => rfl); (case hr => first | (go_simp; done) | (go_simp; rfl)); intro gb145 hg w27 hbox hb; have n0_ := Aside0.mk (below_step (by repeat (first | (with_reducible first | exact HB.out | apply below_alloc | apply pw_below_drewN | apply below_drew1) | exact HB.out)) hb); have n1_ := Aside0.mk ((show IsS34 w w27 gb145 false 0 0 (⟨#[]⟩ : ByteArray) false from ⟨hbox, by rw [hg]; exact (below_size (by repeat (first | (with_reducible first | exact HB.out | apply below_alloc | apply pw_below_drewN | apply below_drew1) | exact HB.out)))⟩)); clear HB; have HB := n0_; have HI145 := n1_; clear n0_ n1_; clear hb hbox hg; obtain ⟨HGz28, hgz28⟩ := HI145.out; have hcz28_0 := cellS34_0 HGz28; have hcz28_1 := cellS34_1 HGz28; have hcz28_2 := cellS34_2 HGz28; have hcz28_3 := cellS34_3 HGz28; have hcz28_4 := cellS34_4 HGz28; have hfz28_0 := blk_frozen HGz28 0; have hfz28_1 := blk_frozen HGz28 1; have hfz28_2 := blk_frozen HGz28 2; have hfz28_3 := blk_frozen HGz28 3; have hfz28_4 := blk_frozen HGz28 4; clear HGz28 hgz28))
                      go_ret
                      exact ⟨by first | rfl | (simp [errW_none, errW_some] <;> rfl) | (simp [*, errW_none, errW_some] <;> rfl), by repeat (first | (with_reducible first | exact HB.out | apply below_alloc | apply pw_below_drewN | apply below_drew1 | refine below_set ?_ (IsS34.ge HI145.out)) | exact HB.out)⟩
                  · have c18b0 : (s1 == 0) = false := beq_eq_false_iff_ne.mpr e1_
                    have c18b1 : (s1 != 0) = true := bne_iff_ne.mpr e1_
                    clear c18
                    obtain rfl := Option.some.inj H
                    have p144 : 0 ≤ (x8_1 : Int) := of_decide_eq_true (by first | (with_reducible assumption) | assumption)
                    have q144 : x8_1 < (l0.length : Int) := of_decide_eq_true (by first | (with_reducible assumption) | assumption)
                    obtain ⟨ad144, e144, hx144_0, hx144_1, hx144_2, hx144_3, hx144_4⟩ := at_T34 HR0.out x8_1 p144 q144
                    rw [← hs] at hx144_0 hx144_1 hx144_2 hx144_3 hx144_4
                    dsimp only at hx144_0 hx144_1 hx144_2 hx144_3 hx144_4
                    (try rw [← Nbq8.out] at hx144_0)
                    (try rw [← Nbq8.out] at hx144_4)
                    cases e144
                    replace hx144_0 := (HB.out.cell (World.block_lt_of_cell? w _ hx144_0)).trans hx144_0
                    replace hx144_1 := (HB.out.cell (World.block_lt_of_cell? w _ hx144_1)).trans hx144_1
                    replace hx144_2 := (HB.out.cell (World.block_lt_of_cell? w _ hx144_2)).trans hx144_2
                    replace hx144_3 := (HB.out.cell (World.block_lt_of_cell? w _ hx144_3)).trans hx144_3
                    replace hx144_4 := (HB.out.cell (World.block_lt_of_cell? w _ hx144_4)).trans hx144_4
                    replace p144 := eq_true p144
                    replace q144 := eq_true q144
                    go_wp2_with (first | ((with_reducible refine gate_dst (N := 4) rfl ?_); refine box_event ?hg (N := 4) ?hd (cs := #[.bool false, .int .i64 0, .int .i64 0, .string (⟨#[]⟩ : ByteArray), .bool false]) (t := 34) ?hr ?_; (case hd => rfl); (case hg => rfl); (case hr => first | (go_simp; done) | (go_simp; rfl)); intro gb145 hg w27 hbox hb; have n0_ := Aside0.mk (below_step (by repeat (first | (with_reducible first | exact HB.out | apply below_alloc | apply pw_below_drewN | apply below_drew1) | exact HB.out)) hb); have n1_ := Aside0.mk ((show IsS34 w w27 gb145 false 0 0 (⟨#[]⟩ : ByteArray) false from ⟨hbox, by rw [hg]; exact (below_size (by repeat (first | (with_reducible first | exact HB.out | apply below_alloc | apply pw_below_drewN | apply below_drew1) | exact HB.out)))⟩)); clear HB; have HB := n0_; have HI145 := n1_; clear n0_ n1_; clear hb hbox hg; obtain ⟨HGz28, hgz28⟩ := HI145.out; have hcz28_0 := cellS34_0 HGz28; have hcz28_1 := cellS34_1 HGz28; have hcz28_2 := cellS34_2 HGz28; have hcz28_3 := cellS34_3 HGz28; have hcz28_4 := cellS34_4 HGz28; have hfz28_0 := blk_frozen HGz28 0; have hfz28_1 := blk_frozen HGz28 1; have hfz28_2 := blk_frozen HGz28 2; have hfz28_3 := blk_frozen HGz28 3; have hfz28_4 := blk_frozen HGz28 4; clear HGz28 hgz28))
                    go_ret
                    exact ⟨by first | rfl | (simp [errW_none, errW_some] <;> rfl) | (simp [*, errW_none, errW_some] <;> rfl), by repeat (first | (with_reducible first | exact HB.out | apply below_alloc | apply pw_below_drewN | apply below_drew1 | refine below_set ?_ (IsS34.ge HI145.out)) | exact HB.out)⟩
          · rw [if_neg c4] at H
            exact absurd H (by simp)
        · rw [if_neg c3] at H
          exact absurd H (by simp)
      · rw [if_neg c2] at H
        have c2b0 : decide (x8_1 < (l0.length : Int)) = false := decide_eq_false c2
        clear c2
        obtain rfl := Option.some.inj H
        go_wp2
        go_ret
        exact ⟨by first | rfl | (simp [errW_none, errW_some] <;> rfl) | (simp [*, errW_none, errW_some] <;> rfl), by repeat (first | (with_reducible first | exact HB.out | apply below_alloc | apply pw_below_drewN | apply below_drew1) | exact HB.out)⟩

end Go.Proofs.Ytgffhdgfloimaaa.P

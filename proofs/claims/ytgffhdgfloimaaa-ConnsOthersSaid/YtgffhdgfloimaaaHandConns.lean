/- What conns.change does with each of the three literals that it is handed, and slices.Clone of connections. -/
import Derived.Test.YtgffhdgfloimaaaP0
import Derived.Laws.Cover3
namespace Go.Proofs.Ytgffhdgfloimaaa.P
open Go.RowKit Go.Proofs.YtgffhdgfloimaaaW.PrintWords Go.Proofs.YtgffhdgfloimaaaW.PrintLast Go.Proofs.YtgffhdgfloimaaaW.PrintMore
attribute [local go_sem] max2_int min2_int max_two min_two max_three min_three max_four min_four   -- for this text's walks alone
set_option linter.unusedVariables false
set_option linter.unusedSimpArgs false

/-- Element i of the row at block g is s. -/
def EL (w0 w : World) (g o n cap : Nat) (xs : List S34) (i : Int) (s : S34) : Prop :=
  Kd.R k34 34 w w0.heap.size (fun _ => True) (.slice (some ⟨g, 0, none⟩) n cap) (xs.set i.toNat s) ∧ o = i.toNat * 5 ∧ 0 ≤ i ∧ i < n ∧ n = xs.length
section
variable {w0 w : World} {g o n cap : Nat} {xs : List S34} {i : Int} {s : S34}
theorem EL.elem (h : EL w0 w g o n cap xs i s) : w.cell? ⟨g, o, none⟩ = some (.bool s.f0) ∧ w.cell? ⟨g, o + 1, none⟩ = some (.int .i64 s.f1) ∧ w.cell? ⟨g, o + 2, none⟩ = some (.int .i64 s.f2) ∧ w.cell? ⟨g, o + 3, none⟩ = some (.string s.f3.f0) ∧ w.cell? ⟨g, o + 4, none⟩ = some (.bool s.f3.f1) ∧ ∀ j, w.frozen? ⟨g, o + j, none⟩ = false := by
  obtain ⟨hR, rfl, h0, h1, h2⟩ := h
  obtain ⟨c, hcl, hM, hcc, hf⟩ := Kd.R_elem hR z34 i h0 h1
  have e : (xs.set i.toNat s).getD i.toNat z34 = s := by
    rw [List.getD_eq_getElem?_getD, List.getElem?_set_self (by omega)]
    rfl
  rw [e] at hM
  obtain rfl := k34_openM hM
  exact ⟨hcc 0 _ rfl, hcc 1 _ rfl, hcc 2 _ rfl, hcc 3 _ rfl, hcc 4 _ rfl, hf⟩
theorem EL.seg (h : EL w0 w g o n cap xs i s) (j : Nat) (u : Value) (s' : S34) (hj : j < 5)
    (hM : [Value.bool s'.f0, .int .i64 s'.f1, .int .i64 s'.f2, .string s'.f3.f0, .bool s'.f3.f1] = [Value.bool s.f0, .int .i64 s.f1, .int .i64 s.f2, .string s.f3.f0, .bool s.f3.f1].set j u) :
    EL w0 (w.setCell ⟨g, o + j, none⟩ u) g o n cap xs i s' := by
  obtain ⟨hR, rfl, h0, h1, h2⟩ := h
  obtain ⟨c, hcl, hM0, hcc, hf⟩ := Kd.R_elem hR z34 i h0 h1
  have e : (xs.set i.toNat s).getD i.toNat z34 = s := by
    rw [List.getD_eq_getElem?_getD, List.getElem?_set_self (by omega)]
    rfl
  rw [e] at hM0
  obtain rfl := k34_openM hM0
  have hS := Kd.R_seg hR i h0 h1 (c := [Value.bool s.f0, .int .i64 s.f1, .int .i64 s.f2, .string s.f3.f0, .bool s.f3.f1]) (seg := [u]) (j := j) rfl hcc (show j + 1 ≤ 5 by omega) (x' := s') (okp := fun k => True ∧ k ≠ g) (by
    have hz : [Value.bool s.f0, .int .i64 s.f1, .int .i64 s.f2, .string s.f3.f0, .bool s.f3.f1].take j ++ [u] ++ [Value.bool s.f0, .int .i64 s.f1, .int .i64 s.f2, .string s.f3.f0, .bool s.f3.f1].drop (j + [u].length) = [Value.bool s'.f0, .int .i64 s'.f1, .int .i64 s'.f2, .string s'.f3.f0, .bool s'.f3.f1] := by
      rw [hM]
      match j, hj with
      | 0, _ => rfl
      | 1, _ => rfl
      | 2, _ => rfl
      | 3, _ => rfl
      | 4, _ => rfl
    rw [hz]
    exact k34_mkM _ _ _ s') (fun _ hk => hk)
  refine ⟨?_, rfl, h0, h1, h2⟩
  have h3 := hS.1
  rw [List.set_set] at h3
  exact h3
theorem EL.set_0 (h : EL w0 w g o n cap xs i s) (b : Bool) : EL w0 (w.setCell ⟨g, o, none⟩ (.bool b)) g o n cap xs i ⟨b, s.f1, s.f2, s.f3⟩ := EL.seg h 0 _ _ (by decide) rfl
theorem EL.set_1 (h : EL w0 w g o n cap xs i s) (x : Int) : EL w0 (w.setCell ⟨g, o + 1, none⟩ (.int .i64 x)) g o n cap xs i ⟨s.f0, x, s.f2, s.f3⟩ := EL.seg h 1 _ _ (by decide) rfl
theorem EL.set_2 (h : EL w0 w g o n cap xs i s) (x : Int) : EL w0 (w.setCell ⟨g, o + 2, none⟩ (.int .i64 x)) g o n cap xs i ⟨s.f0, s.f1, x, s.f3⟩ := EL.seg h 2 _ _ (by decide) rfl
theorem EL.set_3 (h : EL w0 w g o n cap xs i s) (x : ByteArray) : EL w0 (w.setCell ⟨g, o + 3, none⟩ (.string x)) g o n cap xs i ⟨s.f0, s.f1, s.f2, ⟨x, s.f3.f1⟩⟩ := EL.seg h 3 _ _ (by decide) rfl
theorem EL.set_4 (h : EL w0 w g o n cap xs i s) (x : Bool) : EL w0 (w.setCell ⟨g, o + 4, none⟩ (.bool x)) g o n cap xs i ⟨s.f0, s.f1, s.f2, ⟨s.f3.f0, x⟩⟩ := EL.seg h 4 _ _ (by decide) rfl
theorem EL.ge (h : EL w0 w g o n cap xs i s) : w0.heap.size ≤ g := Kd.R_base h.1 g (by simp [Value.ownBlock])
theorem EL.drew (h : EL w0 w g o n cap xs i s) : EL w0 w.drew g o n cap xs i s := ⟨Kd.R_drew h.1, h.2⟩
end

set_option maxHeartbeats 8000000 in
set_option maxRecDepth 100000 in
/-- slices.Clone. -/
theorem conns_Clone.calls (A0 : Option Addr) (c0 : Nat) (l0 : List S34) (w : World) (hr0 : Kd.C k34 w A0 l0.length l0) (hc0 : l0.length ≤ c0) (hL : l0.length ≤ 2932031007402) :
    Calls Try.prog 23 #[.slice A0 l0.length c0] w fun e w' => ∃ v : Value, e = .returned v ∧ Kd.R k34 34 w' w.heap.size (fun _ => True) v l0 ∧ Below w.heap.size w w' := by
  have HB := Aside0.mk (Below.refl w.heap.size w)
  have HR0 := Aside0.mk hr0
  have HC0 := Aside0.mk hc0
  have HL := Aside0.mk hL
  have heq : ∀ (W : World), (binOp .eql 24 (.slice A0 l0.length c0) (.slice none 0 0)).run Try.prog W = .ok (.bool A0.isNone) W := by
    intro W
    simp only [binOp]
    simp [run_equal_slice_nil W 24 34 A0 l0.length c0 Try.underlying24]
  cases A0 with
  | none =>
    have hl : l0 = [] := by
      rcases l0 with _ | ⟨x, l⟩
      · rfl
      · obtain ⟨ad, c, e, _⟩ := Kd.C_get hr0 z34 0 (by omega) (by simp)
        cases e
    subst hl
    simp only [List.length_nil, Option.isNone_none] at heq
    clear hr0 hc0 hL
    go_enter Try.func23, Try.ntmps23
    go_wp2
    go_ret
    exact ⟨_, rfl, Kd.R_nil _ _ _ _ _, HB.out⟩
  | some ad =>
    simp only [Option.isNone_some] at heq
    clear hr0 hc0 hL
    go_enter Try.func23, Try.ntmps23
    go_wp2_with (first | ((with_reducible refine gate_dst (N := 5) rfl ?_); refine Kd.R_lit k34 _ 34 ?hg (N := 5) ?hd (xs := ([] : List (S34))) (inner := []) (ok := fun _ => True) (okp := fun _ => True) ?hr ?hp (fun _ hk => hk) trivial (Below.refl _ _) (Nat.le_refl _) (by simp) ?_; (case hd => rfl); (case hg => rfl); (case hr => first | (go_simp; done) | (go_simp; rfl)); (case hp => exact (Reps.none _ _)); intro v245 w23 ho24 hb hg_ hnew_; clear hg_ hnew_; have n0_ := Aside0.mk (Kd.R_lower ho24 (below_size (by repeat (first | (with_reducible first | exact HB.out | apply below_alloc | apply pw_below_drewN | apply below_drew1) | exact HB.out)))); have n1_ := Aside0.mk (below_step (by repeat (first | (with_reducible first | exact HB.out | apply below_alloc | apply pw_below_drewN | apply below_drew1) | exact HB.out)) hb); clear HB; have HO246 := n0_; have HB := n1_; clear n0_ n1_; clear hb ho24) | ((with_reducible refine gate_builtin (b := .append) (xs := #[.tmp 5, .tmp 6]) rfl ?_); at_builtin; refine Kd.R_append_rows k34 (w0 := w) w.heap.size rfl (.tmp 5) (.tmp 6) 24 34 (.agg #[(.bool false), (.int .i64 0), (.int .i64 0), (.string ⟨#[]⟩), (.bool false)]) 48 rfl Try.underlying24 info34 rfl (by decide) (by omega) v245 [] l0 _ _ _ (fun _ => True) (fun _ => False) rfl rfl ?aO ?aR (fun _ _ h => h) (fun _ h => h.elim) ?aF ?aB ?aS ?aL ?_; (case aR => repeat (first | exact (Kd.C_below HR0.out HB.out) | (with_reducible refine Kd.C_alloc ?_ _) | (with_reducible refine Kd.C_drewN ?_ _) | (with_reducible refine Kd.C_drew ?_))); (case aB => exact (by repeat (first | (with_reducible first | exact HB.out | apply below_alloc | apply pw_below_drewN | apply below_drew1) | exact HB.out))); (case aF => exact (fun _ _ => trivial)); (case aO => exact (by (with_reducible repeat (first | apply Kd.R_alloc | apply Kd.R_drewN | apply Kd.R_drew)); exact HO246.out)); (case aS => exact (below_size (by repeat (first | (with_reducible first | exact HB.out | apply below_alloc | apply pw_below_drewN | apply below_drew1) | exact HB.out)))); (case aL => have := HL.out; rw [List.length_nil]; omega); intro v248 w25 ho hb hg hat; have n0_ := Aside0.mk (hb); have n1_ := Aside0.mk (ho); clear HB; clear HO246; have HB := n0_; have HO249 := n1_; clear n0_ n1_; clear ho hb hg hat))
    go_ret
    exact ⟨_, rfl, HO249.out, HB.out⟩
def conns_Acc.T0 : Bool × List (List Nat × List Nat) := (true, [([], []), ([], []), ([], []), ([0, 0], [0]), ([3, 0], [3]), ([4, 0], [4]), ([1, 0, 1, 2, 3, 4, 5], [1]), ([6, 0, 1, 2, 3, 4, 5], [6]), ([7, 2, 5, 0, 1, 2, 3, 4, 5], [2, 7])])
def conns_Acc.B0 : List Nat := [0, 0, 0, 1, 9, 25, 63, 127, 255]
theorem conns_Acc.tab0 : rtab .any (opsOf Try.f18 0) = conns_Acc.T0 := by kernel_rfl
theorem conns_Acc.bits0 : waitsOk conns_Acc.T0.2 conns_Acc.B0 = true := by kernel_rfl
set_option maxHeartbeats 8000000 in
set_option maxRecDepth 100000 in
theorem conns_Acc.el (g o n cap : Nat) (xs : List S34) (i : Int) (s : S34) (ad : Addr) (x : Int) (w0 w : World) (hI : EL w0 w g o n cap xs i s) (hB : Below w0.heap.size w0 w) (hx : w.cell? ad = some (.int .i64 x)) (hne0 : ad.block ≠ g) :
    Calls Try.prog 18 #[.pointer (some ⟨g, o, none⟩), .pointer (some ad)] w fun e w' => e = .returned (.tuple #[]) ∧ EL w0 w' g o n cap xs i ⟨true, x, wrap64 (s.f2 + 1), s.f3⟩ ∧ Below w0.heap.size w0 w' := by
  have hne := Aside0.mk hne0
  have HX := Aside0.mk (show w.drew.cell? ad = some (.int .i64 x) from hx)
  have HI0 := Aside0.mk (EL.drew hI)
  have HB := Aside0.mk (below_drew1 hB)
  clear hI hB hx hne0
  go_enter Try.func18, Try.ntmps18
  try go_wp2
  refine start_ (n := 9) (S := fun w' => w'.cell? ad = some (.int .i64 x)) (ds := [8]) #[false, false, false, false, false, false, false, false, false] (by kernel_rfl) rfl rfl (HX.out) (fun hHeld => ?_); refine with_tabW conns_Acc.tab0 conns_Acc.bits0 (fun HT_ HW_ => ?_)
  generalize w.drew = w4 at HI0 HB hHeld ⊢
  refine pure_ (i := 0) (N := some 3) (v := ?_) (a' := ?_) #[true, false, false, false, false, false, false, false, false] rfl rfl (any_of HT_.out (by kernel_rfl)) (fun _ _ _ h => h) (Or.inl ⟨by rfl, ?_⟩) ?_ ?_
  rotate_left
  · intro w'
    go_simp
    with_reducible rfl
  rotate_left
  · simp only [Act.put, List.setIfInBounds_toArray, List.set_cons_zero, List.set_cons_succ, i64_w, i32_w]
    rfl
  refine pure_ (i := 1) (N := some 4) (v := ?_) (a' := ?_) #[true, true, false, false, false, false, false, false, false] rfl rfl (any_of HT_.out (by kernel_rfl)) (fun _ _ _ h => h) (Or.inl ⟨by rfl, ?_⟩) ?_ ?_
  rotate_left
  · intro w'
    go_simp
    with_reducible rfl
  rotate_left
  · simp only [Act.put, List.setIfInBounds_toArray, List.set_cons_zero, List.set_cons_succ, i64_w, i32_w]
    rfl
  refine pure_ (i := 3) (N := some 6) (v := ?_) (a' := ?_) #[true, true, false, true, false, false, false, false, false] rfl rfl (any_of HT_.out (by kernel_rfl)) (fun _ _ _ h => h) (Or.inl ⟨by rfl, ?_⟩) ?_ ?_
  rotate_left
  · intro w'
    go_simp
    with_reducible rfl
  rotate_left
  · simp only [Act.put, List.setIfInBounds_toArray, List.set_cons_zero, List.set_cons_succ, i64_w, i32_w]
    rfl
  refine pure_ (i := 4) (N := some 7) (v := ?_) (a' := ?_) #[true, true, false, true, true, false, false, false, false] rfl rfl (any_of HT_.out (by kernel_rfl)) (fun _ _ _ h => h) (Or.inl ⟨by rfl, ?_⟩) ?_ ?_
  rotate_left
  · intro w'
    go_simp
    with_reducible rfl
  rotate_left
  · simp only [Act.put, List.setIfInBounds_toArray, List.set_cons_zero, List.set_cons_succ, i64_w, i32_w]
    rfl
  refine take_ (i := 2) (N := some 5) (v := ?_) (a' := ?_) #[true, true, true, true, true, false, false, false, false] rfl rfl (take_ofW HT_.out HW_.out (by kernel_rfl)) (fun _ _ _ h => h) (Or.inl ⟨by rfl, ?_⟩) hHeld ?_ ?_
  rotate_left
  · intro w' s0
    go_simp
    with_reducible rfl
  rotate_left
  · simp only [Act.put, List.setIfInBounds_toArray, List.set_cons_zero, List.set_cons_succ, i64_w, i32_w]
    rfl
  refine one_ (i := 5) (N := none) #[true, true, true, true, true, true, false, false, false] rfl rfl (one_of HT_.out (by kernel_rfl)) (by decide) (fun K hK => ?_)
  have hs5 := (EL.elem HI0.out).1
  have hfs5 := (EL.elem HI0.out).2.2.2.2.2 0
  rw [Nat.add_zero] at hfs5
  refine skip_ (w1 := ?_) (by rfl) rfl ?_ ?_
  rotate_left
  · go_simp
    rfl
  refine hK.out _ _ (((cell_far (p := ⟨g, _, none⟩) hne.out _).trans (hHeld))) (fun hHeld => ?_)
  clear hK K
  refine pure_ (i := 6) (N := some 8) (v := ?_) (a' := ?_) #[true, true, true, true, true, true, true, false, false] rfl rfl (any_of HT_.out (by kernel_rfl)) (fun _ _ _ h => h) (Or.inl ⟨by rfl, ?_⟩) ?_ ?_
  rotate_left
  · intro w'
    go_simp
    with_reducible rfl
  rotate_left
  · simp only [Act.put, List.setIfInBounds_toArray, List.set_cons_zero, List.set_cons_succ, i64_w, i32_w]
    rfl
  refine pure_ (i := 7) (N := some 9) (v := ?_) (a' := ?_) #[true, true, true, true, true, true, true, true, false] rfl rfl (any_of HT_.out (by kernel_rfl)) (fun _ _ _ h => h) (Or.inl ⟨by rfl, ?_⟩) ?_ ?_
  rotate_left
  · intro w'
    go_simp
    with_reducible rfl
  rotate_left
  · simp only [Act.put, List.setIfInBounds_toArray, List.set_cons_zero, List.set_cons_succ, i64_w, i32_w]
    rfl
  refine last_ (i := 8) (N := none) #[true, true, true, true, true, true, true, true, true] rfl rfl (one_of HT_.out (by kernel_rfl)) (by decide) (fun K hK => ?_)
  have hs6 := (EL.elem HI0.out).2.1
  have hfs6 := (EL.elem HI0.out).2.2.2.2.2 1
  refine skip_ (w1 := ?_) (by rfl) rfl ?_ ?_
  rotate_left
  · go_simp
    rfl
  refine hK.out _ _ ?_
  clear hK K
  refine done_ (done_of HT_.out (by kernel_rfl)) ?_
  clear hHeld
  have HI1 := Aside0.mk (EL.set_1 (EL.set_0 HI0.out true) x)
  have HGE := Aside0.mk (EL.ge HI0.out)
  obtain ⟨e0, e1, e2, e3, e4, ef⟩ := EL.elem HI1.out
  have ef0 := ef 0
  have ef2 := ef 2
  rw [Nat.add_zero] at ef0
  dsimp only at e0 e1 e2 e3 e4
  clear ef
  try go_wp2
  first | go_end0 | ((try simp only [Exit.inBlock, Exit.then]); refine bodyPost_ret (results_none rfl _ _ _) rfl ?_)
  exact ⟨rfl, EL.set_2 HI1.out _, below_set (below_set (below_set HB.out HGE.out) HGE.out) HGE.out⟩
set_option maxHeartbeats 8000000 in
set_option maxRecDepth 100000 in
theorem conns_Clo.el (g o n cap : Nat) (xs : List S34) (i : Int) (s : S34) (w0 w : World) (hI : EL w0 w g o n cap xs i s) (hB : Below w0.heap.size w0 w) :
    Calls Try.prog 15 #[.pointer (some ⟨g, o, none⟩)] w fun e w' => e = .returned (.tuple #[]) ∧ EL w0 w' g o n cap xs i ⟨false, 0, s.f2, ⟨⟨#[]⟩, false⟩⟩ ∧ Below w0.heap.size w0 w' := by
  have hu34 := Try.underlying34
  have HI0 := Aside0.mk hI
  have HB := Aside0.mk hB
  clear hI hB
  have HGE := Aside0.mk (EL.ge HI0.out)
  obtain ⟨e0, e1, e2, e3, e4, ef⟩ := EL.elem HI0.out
  have ef0 := ef 0
  have ef1 := ef 1
  have ef2 := ef 2
  have ef3 := ef 3
  have ef4 := ef 4
  rw [Nat.add_zero] at ef0
  clear ef
  go_enter Try.func15, Try.ntmps15
  go_wp2
  first | go_end0 | ((try simp only [Exit.inBlock, Exit.then]); refine bodyPost_ret (results_none rfl _ _ _) rfl ?_)
  exact ⟨rfl, EL.set_4 (EL.set_3 (EL.set_2 (EL.set_1 (EL.set_0 HI0.out _) _) _) _) _, below_set (below_set (below_set (below_set (below_set HB.out HGE.out) HGE.out) HGE.out) HGE.out) HGE.out⟩
set_option maxHeartbeats 8000000 in
set_option maxRecDepth 100000 in
theorem conns_Pus.el (g o n cap : Nat) (xs : List S34) (i : Int) (s : S34) (ad : Addr) (x : S32) (w0 w : World) (hI : EL w0 w g o n cap xs i s) (hB : Below w0.heap.size w0 w) (hx : w.cell? ad = some (.string x.f0)) (hx1 : w.cell? ⟨ad.block, ad.off + 1, none⟩ = some (.bool x.f1)) :
    Calls Try.prog 22 #[.pointer (some ⟨g, o, none⟩), .pointer (some ad)] w fun e w' => e = .returned (.tuple #[]) ∧ EL w0 w' g o n cap xs i ⟨s.f0, s.f1, s.f2, x⟩ ∧ Below w0.heap.size w0 w' := by
  have hu32 := Try.underlying32
  have HI0 := Aside0.mk hI
  have HB := Aside0.mk hB
  clear hI hB
  have HGE := Aside0.mk (EL.ge HI0.out)
  obtain ⟨e0, e1, e2, e3, e4, ef⟩ := EL.elem HI0.out
  have ef3 := ef 3
  have ef4 := ef 4
  clear ef
  go_enter Try.func22, Try.ntmps22
  go_wp2
  first | go_end0 | ((try simp only [Exit.inBlock, Exit.then]); refine bodyPost_ret (results_none rfl _ _ _) rfl ?_)
  exact ⟨rfl, EL.set_4 (EL.set_3 HI0.out _) _, below_set (below_set HB.out HGE.out) HGE.out⟩

def conns_change__Accept_2.f (l0 : List S34) (a1 : Int) (l2 : List Int) : Option (List S34) := if l0.length ≤ 2932031007402 then (if 0 ≤ a1 then (if a1 < (l0.length : Int) then (match l2 with | [x2] => some (l0.set a1.toNat ⟨true, x2, wrap64 ((rd_T34 l0 a1).f2 + 1), (rd_T34 l0 a1).f3⟩) | _ => none) else none) else none) else none
set_option maxHeartbeats 8000000 in
set_option maxRecDepth 100000 in
theorem conns_change__Accept_2.calls (A0 : Option Addr) (c0 : Nat) (l0 : List S34) (a1 : Int) (A2 : Option Addr) (c2 : Nat) (l2 : List Int) (r : List S34) (w : World) (hr0 : Kd.C k34 w A0 l0.length l0) (hc0 : l0.length ≤ c0) (hr2 : Kd.C (Kd.int .i64) w A2 l2.length l2) (hc2 : l2.length ≤ c2) (h : conns_change__Accept_2.f l0 a1 l2 = some r) :
    Calls Try.prog 14 #[.slice A0 l0.length c0, .int .i64 a1, .func (.func 18) #[] #[.pointer A2]] w fun e w' => ∃ v0_ : Value, e = .returned (v0_) ∧ Kd.R k34 34 w' w.heap.size (fun _ => True) v0_ r ∧ Below w.heap.size w w' := by
  have HB := Aside0.mk (Below.refl w.heap.size w)
  unfold conns_change__Accept_2.f at h
  by_cases c1 : l0.length ≤ 2932031007402
  case neg => rw [if_neg c1] at h; cases h
  rw [if_pos c1] at h
  by_cases c2 : 0 ≤ a1
  case neg => rw [if_neg c2] at h; cases h
  rw [if_pos c2] at h
  by_cases c3 : a1 < (l0.length : Int)
  case neg => rw [if_neg c3] at h; cases h
  rw [if_pos c3] at h
  obtain ⟨x2, rfl⟩ : ∃ x2, l2 = [x2] := by
    rcases l2 with _ | ⟨x2, _ | ⟨y2, l2⟩⟩
    · cases h
    · exact ⟨x2, rfl⟩
    · cases h
  obtain rfl := Option.some.inj h
  obtain ⟨ad2, rfl, hx2⟩ := Kd.at_int hr2 0 (by omega) (by simp)
  rw [show ((0 : Int)).toNat = 0 from rfl, Addr.add_zero'] at hx2
  have HX := Aside0.mk hx2
  have HN := Aside0.mk (World.block_lt_of_cell? _ _ hx2)
  clear hr2 hc2 hx2 h
  have hset : l0.set a1.toNat (rd_T34 l0 a1) = l0 := by
    unfold rd_T34
    rw [List.getD_eq_getElem?_getD, List.getElem?_eq_getElem (by omega)]
    exact List.set_getElem_self _
  have HR0 := Aside0.mk hr0
  have HC0 := Aside0.mk hc0
  have HS := Aside0.mk hset
  have HL := Aside0.mk c1
  have C2 := Aside0.mk c2
  have C3 := Aside0.mk c3
  replace c2 := eq_true c2
  replace c3 := eq_true c3
  clear hr0 hc0 hset c1
  go_enter Try.func14, Try.ntmps14
  go_wp2_with (first | ((with_reducible refine gate_callee (f := 23) rfl ?_); refine goesL_ (some 9) rfl rfl Try.func23 (by kernel_rfl) rfl #[.slice A0 l0.length c0] rfl (by (try simp only [List.map_toArray, List.map_cons, List.map_nil]); first | done | rfl) ?_; (with_reducible refine (conns_Clone.calls A0 c0 l0 _ ?side1 HC0.out HL.out).mono ?_); (case side1 => repeat (first | exact (Kd.C_below HR0.out HB.out) | (with_reducible refine Kd.C_alloc ?_ _) | (with_reducible refine Kd.C_drewN ?_ _) | (with_reducible refine Kd.C_drew ?_))); rintro e w6 ⟨v1, rfl, ho0, hb⟩; obtain ⟨ad1, cap1, rfl⟩ := Kd.R_slice1 ho0 (by have := C2.out; have := C3.out; omega); obtain ⟨g1, rfl⟩ := Kd.R_head ho0; refine ⟨_, rfl, ?_⟩; have n0_ := Aside0.mk (show EL w w6 g1 (a1.toNat * 5) l0.length cap1 l0 a1 (rd_T34 l0 a1) from ⟨by rw [HS.out]; exact Kd.R_lower ho0 (below_size HB.out), rfl, C2.out, C3.out, rfl⟩); have n1_ := Aside0.mk (below_step HB.out hb); clear HB; have HE := n0_; have HB := n1_; clear n0_ n1_ ho0 hb) | (go_at_call 18; (try simp only [add_plain]); (with_reducible refine (conns_Acc.el g1 (a1.toNat * 5) l0.length cap1 l0 a1 (rd_T34 l0 a1) ad2 x2 w _ HE.out HB.out ?side2 ?side3).mono ?_); (case side2 => exact (HB.out.cell HN.out).trans HX.out); (case side3 => exact Nat.ne_of_lt (Nat.lt_of_lt_of_le HN.out (EL.ge HE.out))); rintro e w7 ⟨rfl, he, hb⟩; clear HB HE; have HB := Aside0.mk hb; have HE := Aside0.mk he; clear hb he) | simp only [add_plain])
  go_ret
  exact ⟨_, rfl, HE.out.1, HB.out⟩

def conns_change__Close_1.f (l0 : List S34) (a1 : Int) (b2 : Bool) : Option (List S34) := if l0.length ≤ 2932031007402 then (if 0 ≤ a1 then (if a1 < (l0.length : Int) then (some (l0.set a1.toNat ⟨false, 0, (rd_T34 l0 a1).f2, ⟨⟨#[]⟩, false⟩⟩)) else none) else none) else none
set_option maxHeartbeats 8000000 in
set_option maxRecDepth 100000 in
theorem conns_change__Close_1.calls (A0 : Option Addr) (c0 : Nat) (l0 : List S34) (a1 : Int) (b2 : Bool) (r : List S34) (w : World) (hr0 : Kd.C k34 w A0 l0.length l0) (hc0 : l0.length ≤ c0)  (h : conns_change__Close_1.f l0 a1 b2 = some r) :
    Calls Try.prog 14 #[.slice A0 l0.length c0, .int .i64 a1, .func (.func 15) #[] #[]] w fun e w' => ∃ v0_ : Value, e = .returned (v0_) ∧ Kd.R k34 34 w' w.heap.size (fun _ => True) v0_ r ∧ Below w.heap.size w w' := by
  have HB := Aside0.mk (Below.refl w.heap.size w)
  unfold conns_change__Close_1.f at h
  by_cases c1 : l0.length ≤ 2932031007402
  case neg => rw [if_neg c1] at h; cases h
  rw [if_pos c1] at h
  by_cases c2 : 0 ≤ a1
  case neg => rw [if_neg c2] at h; cases h
  rw [if_pos c2] at h
  by_cases c3 : a1 < (l0.length : Int)
  case neg => rw [if_neg c3] at h; cases h
  rw [if_pos c3] at h
  obtain rfl := Option.some.inj h
  clear h
  have hset : l0.set a1.toNat (rd_T34 l0 a1) = l0 := by
    unfold rd_T34
    rw [List.getD_eq_getElem?_getD, List.getElem?_eq_getElem (by omega)]
    exact List.set_getElem_self _
  have HR0 := Aside0.mk hr0
  have HC0 := Aside0.mk hc0
  have HS := Aside0.mk hset
  have HL := Aside0.mk c1
  have C2 := Aside0.mk c2
  have C3 := Aside0.mk c3
  replace c2 := eq_true c2
  replace c3 := eq_true c3
  clear hr0 hc0 hset c1
  go_enter Try.func14, Try.ntmps14
  go_wp2_with (first | ((with_reducible refine gate_callee (f := 23) rfl ?_); refine goesL_ (some 9) rfl rfl Try.func23 (by kernel_rfl) rfl #[.slice A0 l0.length c0] rfl (by (try simp only [List.map_toArray, List.map_cons, List.map_nil]); first | done | rfl) ?_; (with_reducible refine (conns_Clone.calls A0 c0 l0 _ ?side1 HC0.out HL.out).mono ?_); (case side1 => repeat (first | exact (Kd.C_below HR0.out HB.out) | (with_reducible refine Kd.C_alloc ?_ _) | (with_reducible refine Kd.C_drewN ?_ _) | (with_reducible refine Kd.C_drew ?_))); rintro e w6 ⟨v1, rfl, ho0, hb⟩; obtain ⟨ad1, cap1, rfl⟩ := Kd.R_slice1 ho0 (by have := C2.out; have := C3.out; omega); obtain ⟨g1, rfl⟩ := Kd.R_head ho0; refine ⟨_, rfl, ?_⟩; have n0_ := Aside0.mk (show EL w w6 g1 (a1.toNat * 5) l0.length cap1 l0 a1 (rd_T34 l0 a1) from ⟨by rw [HS.out]; exact Kd.R_lower ho0 (below_size HB.out), rfl, C2.out, C3.out, rfl⟩); have n1_ := Aside0.mk (below_step HB.out hb); clear HB; have HE := n0_; have HB := n1_; clear n0_ n1_ ho0 hb) | (go_at_call 15; (try simp only [add_plain]); (with_reducible refine (conns_Clo.el g1 (a1.toNat * 5) l0.length cap1 l0 a1 (rd_T34 l0 a1) w _ HE.out HB.out).mono ?_); rintro e w7 ⟨rfl, he, hb⟩; clear HB HE; have HB := Aside0.mk hb; have HE := Aside0.mk he; clear hb he) | simp only [add_plain])
  go_ret
  exact ⟨_, rfl, HE.out.1, HB.out⟩

def conns_change__Push_1.f (l0 : List S34) (a1 : Int) (l2 : List S32) : Option (List S34) := if l0.length ≤ 2932031007402 then (if 0 ≤ a1 then (if a1 < (l0.length : Int) then (match l2 with | [x2] => some (l0.set a1.toNat ⟨(rd_T34 l0 a1).f0, (rd_T34 l0 a1).f1, (rd_T34 l0 a1).f2, x2⟩) | _ => none) else none) else none) else none
set_option maxHeartbeats 8000000 in
set_option maxRecDepth 100000 in
theorem conns_change__Push_1.calls (A0 : Option Addr) (c0 : Nat) (l0 : List S34) (a1 : Int) (A2 : Option Addr) (c2 : Nat) (l2 : List S32) (r : List S34) (w : World) (hr0 : Kd.C k34 w A0 l0.length l0) (hc0 : l0.length ≤ c0) (hr2 : Kd.C k32 w A2 l2.length l2) (hc2 : l2.length ≤ c2) (h : conns_change__Push_1.f l0 a1 l2 = some r) :
    Calls Try.prog 14 #[.slice A0 l0.length c0, .int .i64 a1, .func (.func 22) #[] #[.pointer A2]] w fun e w' => ∃ v0_ : Value, e = .returned (v0_) ∧ Kd.R k34 34 w' w.heap.size (fun _ => True) v0_ r ∧ Below w.heap.size w w' := by
  have HB := Aside0.mk (Below.refl w.heap.size w)
  unfold conns_change__Push_1.f at h
  by_cases c1 : l0.length ≤ 2932031007402
  case neg => rw [if_neg c1] at h; cases h
  rw [if_pos c1] at h
  by_cases c2 : 0 ≤ a1
  case neg => rw [if_neg c2] at h; cases h
  rw [if_pos c2] at h
  by_cases c3 : a1 < (l0.length : Int)
  case neg => rw [if_neg c3] at h; cases h
  rw [if_pos c3] at h
  obtain ⟨x2, rfl⟩ : ∃ x2, l2 = [x2] := by
    rcases l2 with _ | ⟨x2, _ | ⟨y2, l2⟩⟩
    · cases h
    · exact ⟨x2, rfl⟩
    · cases h
  obtain rfl := Option.some.inj h
  obtain ⟨ad2, rfl, hx2, hy2⟩ := at_T32 hr2 0 (by omega) (by simp)
  rw [show ((0 : Int)).toNat * 2 = 0 from rfl, Addr.add_zero'] at hx2 hy2
  have HX := Aside0.mk (show w.cell? ad2 = some (.string x2.f0) from hx2)
  have HY := Aside0.mk (show w.cell? ⟨ad2.block, ad2.off + 1, none⟩ = some (.bool x2.f1) from hy2)
  have HN := Aside0.mk (World.block_lt_of_cell? _ _ hx2)
  clear hr2 hc2 hx2 hy2 h
  have hset : l0.set a1.toNat (rd_T34 l0 a1) = l0 := by
    unfold rd_T34
    rw [List.getD_eq_getElem?_getD, List.getElem?_eq_getElem (by omega)]
    exact List.set_getElem_self _
  have HR0 := Aside0.mk hr0
  have HC0 := Aside0.mk hc0
  have HS := Aside0.mk hset
  have HL := Aside0.mk c1
  have C2 := Aside0.mk c2
  have C3 := Aside0.mk c3
  replace c2 := eq_true c2
  replace c3 := eq_true c3
  clear hr0 hc0 hset c1
  go_enter Try.func14, Try.ntmps14
  go_wp2_with (first | ((with_reducible refine gate_callee (f := 23) rfl ?_); refine goesL_ (some 9) rfl rfl Try.func23 (by kernel_rfl) rfl #[.slice A0 l0.length c0] rfl (by (try simp only [List.map_toArray, List.map_cons, List.map_nil]); first | done | rfl) ?_; (with_reducible refine (conns_Clone.calls A0 c0 l0 _ ?side1 HC0.out HL.out).mono ?_); (case side1 => repeat (first | exact (Kd.C_below HR0.out HB.out) | (with_reducible refine Kd.C_alloc ?_ _) | (with_reducible refine Kd.C_drewN ?_ _) | (with_reducible refine Kd.C_drew ?_))); rintro e w6 ⟨v1, rfl, ho0, hb⟩; obtain ⟨ad1, cap1, rfl⟩ := Kd.R_slice1 ho0 (by have := C2.out; have := C3.out; omega); obtain ⟨g1, rfl⟩ := Kd.R_head ho0; refine ⟨_, rfl, ?_⟩; have n0_ := Aside0.mk (show EL w w6 g1 (a1.toNat * 5) l0.length cap1 l0 a1 (rd_T34 l0 a1) from ⟨by rw [HS.out]; exact Kd.R_lower ho0 (below_size HB.out), rfl, C2.out, C3.out, rfl⟩); have n1_ := Aside0.mk (below_step HB.out hb); clear HB; have HE := n0_; have HB := n1_; clear n0_ n1_ ho0 hb) | (go_at_call 22; (try simp only [add_plain]); (with_reducible refine (conns_Pus.el g1 (a1.toNat * 5) l0.length cap1 l0 a1 (rd_T34 l0 a1) ad2 x2 w _ HE.out HB.out ?side2 ?side3).mono ?_); (case side2 => exact (HB.out.cell HN.out).trans HX.out); (case side3 => exact (HB.out.cell (by exact HN.out)).trans HY.out); rintro e w7 ⟨rfl, he, hb⟩; clear HB HE; have HB := Aside0.mk hb; have HE := Aside0.mk he; clear hb he) | simp only [add_plain])
  go_ret
  exact ⟨_, rfl, HE.out.1, HB.out⟩

end Go.Proofs.Ytgffhdgfloimaaa.P

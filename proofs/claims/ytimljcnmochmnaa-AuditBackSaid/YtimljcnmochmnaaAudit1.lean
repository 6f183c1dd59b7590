/- What audit's Right and Put, and the reference's, compute: plain Lean. -/
import Derived.Test.YtimljcnmochmnaaP0
import Derived.Test.YtimljcnmochmnaaP2
import Derived.Test.YtimljcnmochmnaaP4
import Derived.Test.YtimljcnmochmnaaP5
import Derived.Test.YtimljcnmochmnaaOpen
import Derived.Test.YtimljcnmochmnaaRefTwoR
namespace Go.Proofs.Ytimljcnmochmnaa.Base
open Go.RowKit Go.Proofs.YtimljcnmochmnaaW.PrintWords Go.Proofs.YtimljcnmochmnaaW.PrintLast Go.Proofs.YtimljcnmochmnaaW.PrintMore Go.Proofs.Ytimljcnmochmnaa.P Go.Proofs.Ytimljcnmochmnaa
set_option linter.unusedVariables false
set_option linter.unusedSimpArgs false

abbrev R := S23
def inR (lo x hi : Int) : Prop := lo ≤ x ∧ x ≤ hi
instance (lo x hi : Int) : Decidable (inR lo x hi) := inferInstanceAs (Decidable (_ ∧ _))
/-- May a record be? -/
def okR (r : R) : Prop := inR 0 r.f0 1099511627776 ∧ inR 0 r.f1 1099511627776 ∧ inR 1 r.f2 4 ∧ inR (-1) r.f3 15 ∧ inR 0 r.f4 255 ∧ inR 0 r.f5 255 ∧ inR 0 r.f6 255 ∧ inR (-1) r.f7 63 ∧ inR 0 r.f8 65535
instance (r : R) : Decidable (okR r) := inferInstanceAs (Decidable (_ ∧ _))
theorem rdT_get (l : List S43) (i : Nat) (h : i < l.length) : rd_T43 l (i : Int) = l[i] := by
  unfold rd_T43; rw [Int.toNat_natCast, List.getD_eq_getElem?_getD, List.getElem?_eq_getElem h]; rfl
theorem right_loop (xs : List S43) (hl : xs.length ≤ 1000) (d : Nat) : ∀ i : Nat, i ≤ xs.length → xs.length - i = d → Ev (fun k => audit_Right.l0 k xs (xs.length : Int) (i : Int)) (decide (∀ t ∈ xs.drop i, inR t.f1 t.f0 t.f2)) := by
  induction d with
  | zero =>
    intro i hi hd
    rw [List.drop_eq_nil_of_le (by omega)]
    exact Ev.step (f := fun _ => some true) (fun k => by simp only [audit_Right.l0]; rw [if_neg (by omega)]) (by simpa using Ev.now _)
  | succ d ih =>
    intro i hi hd
    have hlt : i < xs.length := by omega
    have edrop : xs.drop i = xs[i] :: xs.drop (i + 1) := List.drop_eq_getElem_cons hlt
    rw [edrop]
    by_cases c1 : inR (xs[i]).f1 (xs[i]).f0 (xs[i]).f2
    · have e : (∀ t ∈ xs[i] :: xs.drop (i + 1), inR t.f1 t.f0 t.f2) ↔ (∀ t ∈ xs.drop (i + 1), inR t.f1 t.f0 t.f2) := by rw [List.forall_mem_cons]; exact ⟨fun h => h.2, fun h => ⟨c1, h⟩⟩
      rw [decide_eq_decide.2 e]
      refine Ev.step (f := fun k => audit_Right.l0 k xs (xs.length : Int) ((i + 1 : Nat) : Int)) (fun k => ?_) (ih _ (by omega) (by omega))
      obtain ⟨g1, g2⟩ := c1
      simp only [audit_Right.l0]
      rw [if_pos (by omega), if_pos (by omega), if_pos (by omega), rdT_get xs i hlt, if_neg (by omega), if_neg (by omega), w_id (by omega) (by omega)]
      rfl
    · rw [decide_eq_false (fun h => c1 (h _ List.mem_cons_self))]
      refine Ev.step (f := fun _ => some false) (fun k => ?_) (Ev.now _)
      simp only [audit_Right.l0]
      rw [if_pos (by omega), if_pos (by omega), if_pos (by omega), rdT_get xs i hlt]
      by_cases c2 : (xs[i]).f0 < (xs[i]).f1
      · rw [if_pos c2]
      · rw [if_neg c2, if_pos (by unfold inR at c1; omega)]
theorem audit_Right_is (r : R) : Ev (fun k => audit_Right.f k r.f0 r.f1 r.f2 r.f3 r.f4 r.f5 r.f6 r.f7 r.f8) (decide (okR r)) := by
  have h := right_loop [(⟨r.f0, 0, 1099511627776⟩ : S43), ⟨r.f1, 0, 1099511627776⟩, ⟨r.f2, 1, 4⟩, ⟨r.f3, (-1), 15⟩, ⟨r.f4, 0, 255⟩, ⟨r.f5, 0, 255⟩, ⟨r.f6, 0, 255⟩, ⟨r.f7, (-1), 63⟩, ⟨r.f8, 0, 65535⟩] (by show 9 ≤ 1000; decide) 9 0 (Nat.zero_le _) rfl
  have e : (∀ t ∈ [(⟨r.f0, 0, 1099511627776⟩ : S43), ⟨r.f1, 0, 1099511627776⟩, ⟨r.f2, 1, 4⟩, ⟨r.f3, (-1), 15⟩, ⟨r.f4, 0, 255⟩, ⟨r.f5, 0, 255⟩, ⟨r.f6, 0, 255⟩, ⟨r.f7, (-1), 63⟩, ⟨r.f8, 0, 65535⟩], inR t.f1 t.f0 t.f2) ↔ okR r := by
    simp only [List.forall_mem_cons]
    exact ⟨fun ⟨h0, h1, h2, h3, h4, h5, h6, h7, h8, _⟩ => ⟨h0, h1, h2, h3, h4, h5, h6, h7, h8⟩, fun ⟨h0, h1, h2, h3, h4, h5, h6, h7, h8⟩ => ⟨h0, h1, h2, h3, h4, h5, h6, h7, h8, fun a ha => by simp at ha⟩⟩
  rw [List.drop_zero, decide_eq_decide.2 e] at h
  refine Ev.congr (fun k => ?_) h
  unfold audit_Right.f
  rw [Option.bind_some]
  rfl
/-- So many bytes of a number, the highest first. -/
def beI (n : Int) : Nat → List Int
  | 0 => []
  | m + 1 => (n / 2 ^ (8 * m)) % 256 :: beI n m
theorem beI_len (n : Int) : ∀ m, (beI n m).length = m
  | 0 => rfl
  | m + 1 => by rw [beI, List.length_cons, beI_len n m]
theorem wrapU' (a : Int) (h0 : 0 ≤ a) (h1 : a < 1000) : IntKind.u64.wrap a = a := by
  have : IntKind.u64.wrap a = a % 18446744073709551616 := by simp [IntKind.wrap, IntKind.bits, IntKind.signed]
  omega
theorem put_loop (n : Int) : ∀ (m : Nat) (l : List Int), m ≤ 6 → l.length + m ≤ 10000 → Ev (fun k => audit_put.l0 k l n ((m : Int) - 1)) (l ++ beI n m) := by
  intro m
  induction m with
  | zero =>
    intro l hm hl
    refine Ev.step (f := fun _ => some l) (fun k => ?_) (by simpa [beI] using Ev.now _)
    simp only [audit_put.l0]
    rw [if_neg (by omega)]
  | succ m ih =>
    intro l hm hl
    have h := ih (l ++ [(n / 2 ^ (8 * m)) % 256]) (by omega) (by rw [List.length_append]; show l.length + 1 + m ≤ _; omega)
    rw [List.append_assoc] at h
    refine Ev.step (fun k => ?_) h
    simp only [audit_put.l0]
    have e1 : ((m + 1 : Nat) : Int) - 1 = (m : Int) := by omega
    have e2 : IntKind.u64.wrap (wrap64 (8 * (m : Int))) = ((8 * m : Nat) : Int) := by rw [w_id (by omega) (by omega), wrapU' _ (by omega) (by omega)]; omega
    have e3 : shr .i64 n ((8 * m : Nat) : Int) = n / 2 ^ (8 * m) := by
      unfold shr
      rw [Int.toNat_natCast, Nat.min_eq_left (by show 8 * m ≤ 64; omega)]
    rw [e1, if_pos (by omega), e2, if_pos (by omega), if_pos (by omega), e3, w_id (x := (m : Int) - 1) (by omega) (by omega)]
theorem audit_put_is (l : List Int) (n : Int) (m : Nat) (hm : m ≤ 6) (hl : l.length ≤ 5000) : Ev (fun k => audit_put.f k l n (m : Int)) (l ++ beI n m) :=
  Ev.congr (fun k => by unfold audit_put.f; rw [w_id (by omega) (by omega)]) (put_loop n m l hm (by omega))
theorem rdI_get (l : List Int) (i : Nat) (h : i < l.length) : rd l (i : Int) = l[i] := by
  unfold rd; rw [Int.toNat_natCast, List.getD_eq_getElem?_getD, List.getElem?_eq_getElem h]; rfl
theorem Put_loop (ys : List Int) (hy : ys.length ≤ 100) (r0 r1 r2 r3 r4 r5 r6 r7 r8 : Int) (d : Nat) : ∀ (i : Nat) (acc : List Int), i ≤ ys.length → ys.length - i = d → acc.length ≤ 1000 + i →
    Ev (fun k => audit_Put.l0 k acc ys (ys.length : Int) (i : Int) r0 r1 r2 r3 r4 r5 r6 r7 r8) (strOfNums (acc ++ (ys.drop i).flatMap (fun y => beI y 1) ++ beI r8 2), true) := by
  induction d with
  | zero =>
    intro i acc hi hd ha
    rw [List.drop_eq_nil_of_le (by omega)]
    refine Ev.step (f := fun k => (audit_put.f k acc r8 ((2 : Nat) : Int)).bind fun t125 => some (strOfNums t125, true)) (fun k => ?_) ?_
    · simp only [audit_Put.l0]; rw [if_neg (by omega)]; rfl
    · exact Ev.bind (audit_put_is acc r8 2 (by omega) (by omega)) (by simpa using Ev.now _)
  | succ d ih =>
    intro i acc hi hd ha
    have hlt : i < ys.length := by omega
    have edrop : ys.drop i = ys[i] :: ys.drop (i + 1) := List.drop_eq_getElem_cons hlt
    refine Ev.step (f := fun k => (audit_put.f k acc ys[i] ((1 : Nat) : Int)).bind fun t122 => audit_Put.l0 k t122 ys (ys.length : Int) ((i + 1 : Nat) : Int) r0 r1 r2 r3 r4 r5 r6 r7 r8) (fun k => ?_) ?_
    · simp only [audit_Put.l0]; rw [if_pos (by omega), if_pos (by omega), if_pos (by omega), rdI_get ys i hlt, w_id (by omega) (by omega)]; rfl
    · refine Ev.bind (audit_put_is acc ys[i] 1 (by omega) (by omega)) ?_
      have h := ih (i + 1) (acc ++ beI ys[i] 1) (by omega) (by omega) (by rw [List.length_append, beI_len]; omega)
      rw [edrop, List.flatMap_cons]
      simpa only [List.append_assoc] using h
/-- A record's bytes, as numbers. -/
def recI (r : R) : List Int := beI r.f0 6 ++ beI r.f1 6 ++ [r.f2 % 256, r.f3 % 256, r.f4 % 256, r.f5 % 256, r.f6 % 256, r.f7 % 256] ++ beI r.f8 2
def tob (n : Int) : UInt8 := UInt8.ofNat n.toNat
def recB (r : R) : List UInt8 := (recI r).map tob
theorem recB_len (r : R) : (recB r).length = 20 := by unfold recB recI; simp only [List.length_map, List.length_append, beI_len]; rfl
theorem audit_Put_is (r : R) : Ev (fun k => audit_Put.f k r.f0 r.f1 r.f2 r.f3 r.f4 r.f5 r.f6 r.f7 r.f8) (if okR r then (B (recB r), true) else (B [], false)) := by
  unfold audit_Put.f
  refine Ev.bind (audit_Right_is r) ?_
  by_cases ok : okR r
  · rw [if_pos ok]
    refine Ev.congr (fun k => by rw [decide_eq_true ok, if_pos rfl]) ?_
    refine Ev.bind (audit_put_is [] r.f0 6 (by omega) (by simp)) ?_
    refine Ev.bind (audit_put_is _ r.f1 6 (by omega) (by rw [List.length_append, beI_len]; simp)) ?_
    refine Ev.congr (fun k => by rw [Option.bind_some]) ?_
    have h := Put_loop [r.f2, r.f3, r.f4, r.f5, r.f6, r.f7] (by show 6 ≤ 100; decide) r.f0 r.f1 r.f2 r.f3 r.f4 r.f5 r.f6 r.f7 r.f8 6 0 (([] ++ beI r.f0 6) ++ beI r.f1 6) (Nat.zero_le _) rfl (by rw [List.length_append, List.length_append, beI_len, beI_len]; decide)
    have e : ([] ++ beI r.f0 6) ++ beI r.f1 6 ++ (List.drop 0 [r.f2, r.f3, r.f4, r.f5, r.f6, r.f7]).flatMap (fun y => beI y 1) ++ beI r.f8 2 = recI r := by
      unfold recI
      simp [beI]
    rw [e] at h
    exact h
  · rw [if_neg ok]
    exact Ev.congr (fun k => by rw [decide_eq_false ok, if_neg (by simp)]; rfl) (Ev.now _)
theorem among_is (a lo hi : Int) : ref23_among.f a lo hi = some (decide (inR lo a hi)) := by
  unfold ref23_among.f inR
  by_cases c : a ≥ lo
  · rw [if_pos c]; exact congrArg some (decide_eq_decide.2 ⟨fun h => ⟨c, h⟩, fun h => h.2⟩)
  · rw [if_neg c]; exact congrArg some (Eq.symm (decide_eq_false (fun h => c h.1)))
theorem ref23_Right_is (r : R) : ref23_Right.f r.f0 r.f1 r.f2 r.f3 r.f4 r.f5 r.f6 r.f7 r.f8 = some (decide (okR r)) := by
  unfold ref23_Right.f
  have step : ∀ (p q : Prop) [Decidable p] [Decidable q] (o : Option Bool), o = some (decide q) → ((some (decide p)).bind fun t => if t = true then o else some false) = some (decide (p ∧ q)) := by
    intro p q _ _ o ho
    rw [Option.bind_some, ho]
    by_cases hp : p
    · rw [decide_eq_true hp, if_pos rfl]; exact congrArg some (decide_eq_decide.2 ⟨fun h => ⟨hp, h⟩, fun h => h.2⟩)
    · rw [decide_eq_false hp, if_neg (by simp)]; exact congrArg some (Eq.symm (decide_eq_false (fun h => hp h.1)))
  rw [among_is, among_is, among_is, among_is, among_is, among_is, among_is, among_is, among_is]
  refine step _ _ _ (step _ _ _ (step _ _ _ (step _ _ _ (step _ _ _ (step _ _ _ (step _ _ _ (step _ _ _ ?_)))))))
  rw [Option.bind_some]
theorem Of_is (a : Int) (h0 : 0 ≤ a) (h1 : a ≤ 65535) : ref01_Of.f a = some (B (two a.toNat)) := by
  unfold ref01_Of.f
  rw [ref01_Put_is, if_pos ⟨h0, h1⟩, Option.bind_some]
theorem tob_eq (a : Int) (n : Nat) (h : a.toNat = n) : tob a = UInt8.ofNat n := by unfold tob; rw [h]
theorem six_is (a : Int) (h0 : 0 ≤ a) (h1 : a ≤ 1099511627776) : ref23_six.f a = some (B ((beI a 6).map tob)) := by
  obtain ⟨m, rfl⟩ := Int.eq_ofNat_of_zero_le h0
  have e1 : wrap64 (Int.tdiv (m : Int) 65536) = ((m / 65536 : Nat) : Int) := by rw [Int.tdiv_eq_ediv_of_nonneg (by omega), w_id (by omega) (by omega)]; omega
  have e2 : wrap64 (Int.tdiv ((m / 65536 : Nat) : Int) 65536) = ((m / 65536 / 65536 : Nat) : Int) := by rw [Int.tdiv_eq_ediv_of_nonneg (by omega), w_id (by omega) (by omega)]; omega
  have e3 : Int.tmod ((m / 65536 : Nat) : Int) 65536 = ((m / 65536 % 65536 : Nat) : Int) := by rw [Int.tmod_eq_emod_of_nonneg (by omega)]; omega
  have e4 : Int.tmod (m : Int) 65536 = ((m % 65536 : Nat) : Int) := by rw [Int.tmod_eq_emod_of_nonneg (by omega)]; omega
  have l2 : ∀ n, (two n).length = 2 := fun n => rfl
  unfold ref23_six.f
  rw [e1, e2, e3, e4, Of_is _ (by omega) (by omega), Option.bind_some, Of_is _ (by omega) (by omega), Option.bind_some, B_size, B_size, l2, l2, if_pos (by decide), Of_is _ (by omega) (by omega), Option.bind_some, B_size, l2, if_pos (by decide), B_cat, B_cat]
  simp only [Int.toNat_natCast]
  have q5 : (2 : Int) ^ (8 * 5) = 1099511627776 := by decide
  have q4 : (2 : Int) ^ (8 * 4) = 4294967296 := by decide
  have q3 : (2 : Int) ^ (8 * 3) = 16777216 := by decide
  have q2 : (2 : Int) ^ (8 * 2) = 65536 := by decide
  have q1 : (2 : Int) ^ (8 * 1) = 256 := by decide
  have q0 : (2 : Int) ^ (8 * 0) = 1 := by decide
  have a5 := tob_eq ((m : Int) / 1099511627776 % 256) (m / 65536 / 65536 / 256) (by omega)
  have a4 := tob_eq ((m : Int) / 4294967296 % 256) (m / 65536 / 65536 % 256) (by omega)
  have a3 := tob_eq ((m : Int) / 16777216 % 256) (m / 65536 % 65536 / 256) (by omega)
  have a2 := tob_eq ((m : Int) / 65536 % 256) (m / 65536 % 65536 % 256) (by omega)
  have a1 := tob_eq ((m : Int) / 256 % 256) (m % 65536 / 256) (by omega)
  have a0 := tob_eq ((m : Int) / 1 % 256) (m % 65536 % 256) (by omega)
  simp only [beI, List.map_cons, List.map_nil, q5, q4, q3, q2, q1, q0, a5, a4, a3, a2, a1, a0]
  rfl
theorem ref23_Put_is (r : R) : ref23_Put.f r.f0 r.f1 r.f2 r.f3 r.f4 r.f5 r.f6 r.f7 r.f8 = some (if okR r then (B (recB r), true) else (B [], false)) := by
  unfold ref23_Put.f
  rw [ref23_Right_is, Option.bind_some]
  by_cases ok : okR r
  · rw [decide_eq_true ok, if_pos rfl, if_pos ok]
    obtain ⟨h0, h1, _, _, _, _, _, _, h8⟩ := ok
    have l6 : ∀ n, ((beI n 6).map tob).length = 6 := fun n => by rw [List.length_map, beI_len]
    have l2 : ∀ n, (two n).length = 2 := fun n => rfl
    rw [six_is _ h0.1 h0.2, Option.bind_some, six_is _ h1.1 h1.2, Option.bind_some, B_size, B_size, l6, l6, if_pos (by decide), Option.bind_some, B_nums, B_size, List.length_map]
    rw [if_pos (by show 6 + 6 + 6 ≤ _; decide), Of_is _ h8.1 h8.2, Option.bind_some, B_size, l2, if_pos (by show 6 + 6 + 6 + 2 ≤ _; decide), B_cat, B_cat, B_cat]
    have e : two r.f8.toNat = (beI r.f8 2).map tob := by
      obtain ⟨m, hm⟩ := Int.eq_ofNat_of_zero_le h8.1
      have h8' := h8.2
      rw [hm] at h8' ⊢
      have q1 : (2 : Int) ^ (8 * 1) = 256 := by decide
      have q0 : (2 : Int) ^ (8 * 0) = 1 := by decide
      have a1 := tob_eq ((m : Int) / 256 % 256) (m / 256) (by omega)
      have a0 := tob_eq ((m : Int) / 1 % 256) (m % 256) (by omega)
      simp only [beI, List.map_cons, List.map_nil, q1, q0, a1, a0, Int.toNat_natCast]
      rfl
    rw [e]
    unfold recB recI
    simp only [List.map_append]
    rfl
  · rw [decide_eq_false ok, if_neg (by simp), if_neg ok]
    rfl
end Go.Proofs.Ytimljcnmochmnaa.Base

/- What audit's All and the reference's compute; records come back of their bytes, and bytes of their records: plain Lean. -/
import Derived.Test.YtfapfpkijeaapaaP0
import Derived.Test.YtfapfpkijeaapaaP6
import Derived.Test.YtfapfpkijeaapaaP9
import Derived.Test.YtfapfpkijeaapaaAudit2
namespace Go.Proofs.Ytfapfpkijeaapaa.Base
open Go.RowKit Go.Proofs.YtfapfpkijeaapaaW.PrintWords Go.Proofs.YtfapfpkijeaapaaW.PrintLast Go.Proofs.YtfapfpkijeaapaaW.PrintMore Go.Proofs.Ytfapfpkijeaapaa.P Go.Proofs.Ytfapfpkijeaapaa
set_option linter.unusedVariables false
set_option linter.unusedSimpArgs false

def allR (l : List R) : Prop := ∀ r ∈ l, okR r
instance (l : List R) : Decidable (allR l) := inferInstanceAs (Decidable (∀ r ∈ l, okR r))
theorem allR_app (a b : List R) : allR (a ++ b) ↔ allR a ∧ allR b := by
  unfold allR; constructor
  · exact fun h => ⟨fun e he => h e (List.mem_append_left _ he), fun e he => h e (List.mem_append_right _ he)⟩
  · rintro ⟨h1, h2⟩ e he; rcases List.mem_append.1 he with he | he; exact h1 e he; exact h2 e he
theorem allR_cons (e : R) (l : List R) : allR (e :: l) ↔ okR e ∧ allR l := by
  unfold allR; rw [List.forall_mem_cons]
/-- The records of bytes. -/
def allS : Nat → List UInt8 → List R → List R × Bool
  | 0, s, acc => if s = [] then (acc, true) else ([], false)
  | n + 1, s, acc => if okR (recG (s.take 20)) then allS n (s.drop 20) (acc ++ [recG (s.take 20)]) else ([], false)
theorem resG20 (s : List UInt8) (h : 20 ≤ s.length) : resG (s.take 20) = if okR (recG (s.take 20)) then tupR (recG (s.take 20)) true else (0, 0, 0, 0, 0, 0, 0, 0, 0, false) := by
  have hl : (s.take 20).length = 20 := by rw [List.length_take]; omega
  unfold resG
  by_cases ok : okR (recG (s.take 20))
  · rw [if_pos (show (s.take 20).length = 20 ∧ okR (recG (s.take 20)) from ⟨hl, ok⟩), if_pos ok]
  · rw [if_neg (show ¬ ((s.take 20).length = 20 ∧ okR (recG (s.take 20))) from fun q => ok q.2), if_neg ok]
theorem All_loop : ∀ (n : Nat) (s : List UInt8) (acc : List R), s.length ≤ 1000000 → s.length / 20 = n → acc.length + n ≤ 1000000 → Ev (fun k => audit_All.l0 k (B s) acc) (allS n s acc) := by
  intro n
  induction n with
  | zero =>
    intro s acc hs hn ha
    unfold allS
    by_cases c : s = []
    · rw [if_pos c, c]
      refine Ev.step (f := fun _ => some (acc, true)) (fun k => ?_) (Ev.now _)
      simp only [audit_All.l0]
      rw [B_size, if_neg (by simp), B_list, if_pos rfl]
    · rw [if_neg c]
      refine Ev.step (f := fun _ => some ([], false)) (fun k => ?_) (Ev.now _)
      simp only [audit_All.l0]
      rw [B_size, if_neg (by omega), B_list, if_neg c]
  | succ n ih =>
    intro s acc hs hn ha
    have hr := resG20 s (by omega)
    have hG := audit_Get_is (s.take 20) (by rw [List.length_take]; omega)
    rw [hr] at hG
    unfold allS
    refine Ev.step (fun k => by simp only [audit_All.l0]; rw [B_size, if_pos (by omega), if_pos (by decide), if_pos (by omega), B_cut, B_cut, List.drop_zero, List.take_length]) ?_
    refine Ev.bind hG ?_
    by_cases ok : okR (recG (s.take 20))
    · rw [if_pos ok, if_pos ok]
      refine Ev.congr (fun k => ?_) (ih (s.drop 20) (acc ++ [recG (s.take 20)]) (by rw [List.length_drop]; omega) (by rw [List.length_drop]; omega) (by rw [List.length_append]; show acc.length + 1 + n ≤ _; omega))
      rw [if_pos (show (tupR (recG (s.take 20)) true).2.2.2.2.2.2.2.2.2 = true from rfl), if_pos (by omega)]
      rfl
    · rw [if_neg ok, if_neg ok]
      exact Ev.congr (fun k => if_neg (by simp)) (Ev.now _)
theorem audit_All_is (s : List UInt8) (hs : s.length ≤ 100000) : Ev (fun k => audit_All.f k (B s)) (allS (s.length / 20) s []) :=
  Ev.congr (fun k => rfl) (All_loop _ s [] (by omega) rfl (by show 0 + s.length / 20 ≤ _; omega))
theorem allS_bad : ∀ (n : Nat) (s : List UInt8) (acc : List R), s.length % 20 ≠ 0 → s.length / 20 = n → allS n s acc = ([], false) := by
  intro n
  induction n with
  | zero =>
    intro s acc h hn
    unfold allS
    rw [if_neg (fun q => h (by rw [q]; rfl))]
  | succ n ih =>
    intro s acc h hn
    unfold allS
    rw [ih _ _ (by rw [List.length_drop]; omega) (by rw [List.length_drop]; omega), ite_self]
theorem same_loop (l : List R) (hl : l.length ≤ 1099511627776) (d : Nat) : ∀ i : Nat, i ≤ l.length → l.length - i = d → Ev (fun k => ref23_Same.l0 k l l (i : Int)) true := by
  induction d with
  | zero => intro i hi hd; exact Ev.step (f := fun _ => some true) (fun k => by simp only [ref23_Same.l0]; rw [if_neg (by omega)]) (Ev.now _)
  | succ d ih =>
    intro i hi hd
    refine Ev.step (f := fun k => ref23_Same.l0 k l l ((i + 1 : Nat) : Int)) (fun k => ?_) (ih _ (by omega) (by omega))
    simp only [ref23_Same.l0]
    rw [if_pos (by omega), if_pos (by omega), if_pos (by omega), w_id (by omega) (by omega), if_neg (by simp only [beq_self_eq_true, Bool.not_true, Bool.or_false, Bool.false_eq_true, not_false_eq_true])]
    rfl
theorem same_is (l : List R) (hl : l.length ≤ 1099511627776) : Ev (fun k => ref23_Same.f k l l) true := by
  refine Ev.congr (fun k => ?_) (same_loop l hl l.length 0 (by omega) (by omega))
  unfold ref23_Same.f
  rw [if_pos rfl]
  rfl
theorem allS_len : ∀ (n : Nat) (s : List UInt8) (acc : List R), (allS n s acc).1.length ≤ acc.length + n := by
  intro n
  induction n with
  | zero => intro s acc; unfold allS; split <;> simp
  | succ n ih =>
    intro s acc
    unfold allS
    split
    · have := ih (s.drop 20) (acc ++ [recG (s.take 20)])
      rw [List.length_append] at this
      have e : [recG (s.take 20)].length = 1 := rfl
      omega
    · simp
theorem tob_byte (b : UInt8) (x : Int) (h : x = (b.toNat : Int)) : tob x = b := by
  unfold tob; rw [h, Int.toNat_natCast]; simp
/-- Bytes come back of their record. -/
theorem recB_recG (s : List UInt8) (h : s.length = 20) : recB (recG s) = s := by
  obtain ⟨a, b, c, d, e, f, g, h', i, j, k, l, m, n, o, p, q, r, s', t, rfl⟩ := list20 s h
  have q5 : (2 : Int) ^ (8 * 5) = 1099511627776 := by decide
  have q4 : (2 : Int) ^ (8 * 4) = 4294967296 := by decide
  have q3 : (2 : Int) ^ (8 * 3) = 16777216 := by decide
  have q2 : (2 : Int) ^ (8 * 2) = 65536 := by decide
  have q1 : (2 : Int) ^ (8 * 1) = 256 := by decide
  have q0 : (2 : Int) ^ (8 * 0) = 1 := by decide
  have v6 : ∀ a b c d e f : UInt8, (beI ((valA 0 [a, b, c, d, e, f] : Nat) : Int) 6).map tob = [a, b, c, d, e, f] := by
    intro a b c d e f
    have ha := byte_lt a; have hb := byte_lt b; have hc := byte_lt c; have hd := byte_lt d; have he := byte_lt e; have hf := byte_lt f
    have hv : valA 0 [a, b, c, d, e, f] = 1099511627776 * a.toNat + 4294967296 * b.toNat + 16777216 * c.toNat + 65536 * d.toNat + 256 * e.toNat + f.toNat := by simp only [valA]; omega
    rw [hv]
    simp only [beI, List.map_cons, List.map_nil, q5, q4, q3, q2, q1, q0]
    rw [tob_byte a _ (by omega), tob_byte b _ (by omega), tob_byte c _ (by omega), tob_byte d _ (by omega), tob_byte e _ (by omega), tob_byte f _ (by omega)]
  have v1 : ∀ a : UInt8, tob ((a.toNat : Int) % 256) = a := fun a => tob_byte a _ (by have := byte_lt a; omega)
  have vs : ∀ a : UInt8, tob (sg a.toNat % 256) = a := fun a => tob_byte a _ (by have := byte_lt a; unfold sg; split <;> omega)
  have v2 : (beI ((256 * s'.toNat + t.toNat : Nat) : Int) 2).map tob = [s', t] := by
    have ha := byte_lt s'; have hb := byte_lt t
    simp only [beI, List.map_cons, List.map_nil, q1, q0]
    rw [tob_byte s' _ (by omega), tob_byte t _ (by omega)]
  unfold recB recI
  rw [List.map_append, List.map_append, List.map_append]
  show (beI ((valA 0 [a, b, c, d, e, f] : Nat) : Int) 6).map tob ++ (beI ((valA 0 [g, h', i, j, k, l] : Nat) : Int) 6).map tob ++ [tob ((m.toNat : Int) % 256), tob (sg n.toNat % 256), tob ((o.toNat : Int) % 256), tob ((p.toNat : Int) % 256), tob ((q.toNat : Int) % 256), tob (sg r.toNat % 256)] ++ (beI ((256 * s'.toNat + t.toNat : Nat) : Int) 2).map tob = _
  rw [v6, v6, v1, v1, v1, v1, vs, vs, v2]
  rfl
theorem tob_val (x : Int) (h0 : 0 ≤ x) (h1 : x < 256) : ((tob x).toNat : Int) = x := by
  unfold tob
  rw [UInt8.toNat_ofNat']
  omega
/-- Records come back of their bytes. -/
theorem recG_recB (r : R) (ok : okR r) : recG (recB r) = r := by
  obtain ⟨h0, h1, h2, h3, h4, h5, h6, h7, h8⟩ := ok
  have q5 : (2 : Int) ^ (8 * 5) = 1099511627776 := by decide
  have q4 : (2 : Int) ^ (8 * 4) = 4294967296 := by decide
  have q3 : (2 : Int) ^ (8 * 3) = 16777216 := by decide
  have q2 : (2 : Int) ^ (8 * 2) = 65536 := by decide
  have q1 : (2 : Int) ^ (8 * 1) = 256 := by decide
  have q0 : (2 : Int) ^ (8 * 0) = 1 := by decide
  have w6 : ∀ n : Int, inR 0 n 1099511627776 → ((valA 0 ((beI n 6).map tob) : Nat) : Int) = n := by
    rintro n ⟨g0, g1⟩
    have a5 := tob_val (n / 1099511627776 % 256) (by omega) (by omega)
    have a4 := tob_val (n / 4294967296 % 256) (by omega) (by omega)
    have a3 := tob_val (n / 16777216 % 256) (by omega) (by omega)
    have a2 := tob_val (n / 65536 % 256) (by omega) (by omega)
    have a1 := tob_val (n / 256 % 256) (by omega) (by omega)
    have a0 := tob_val (n / 1 % 256) (by omega) (by omega)
    simp only [beI, List.map_cons, List.map_nil, q5, q4, q3, q2, q1, q0, valA]
    omega
  have w1 : ∀ n : Int, inR 0 n 255 → (((tob (n % 256)).toNat : Nat) : Int) = n := by
    rintro n ⟨g0, g1⟩
    rw [tob_val _ (by omega) (by omega)]; omega
  have ws : ∀ n : Int, inR (-1) n 63 → sg (tob (n % 256)).toNat = n := by
    rintro n ⟨g0, g1⟩
    have a0 := tob_val (n % 256) (by omega) (by omega)
    unfold sg
    split <;> omega
  have w2 : ∀ n : Int, inR 0 n 65535 → ((256 * (tob (n / 256 % 256)).toNat + (tob (n / 1 % 256)).toNat : Nat) : Int) = n := by
    rintro n ⟨g0, g1⟩
    have a1 := tob_val (n / 256 % 256) (by omega) (by omega)
    have a0 := tob_val (n / 1 % 256) (by omega) (by omega)
    omega
  have e : recB r = (beI r.f0 6).map tob ++ ((beI r.f1 6).map tob ++ ([tob (r.f2 % 256), tob (r.f3 % 256), tob (r.f4 % 256), tob (r.f5 % 256), tob (r.f6 % 256), tob (r.f7 % 256)] ++ [tob (r.f8 / 256 % 256), tob (r.f8 / 1 % 256)])) := by
    unfold recB recI
    rw [List.map_append, List.map_append, List.map_append]
    simp only [List.append_assoc]
    rfl
  have l6 : ∀ n, ((beI n 6).map tob).length = 6 := fun n => by rw [List.length_map, beI_len]
  obtain ⟨X, hX⟩ : ∃ X, X = (beI r.f0 6).map tob := ⟨_, rfl⟩
  obtain ⟨Y, hY⟩ : ∃ Y, Y = (beI r.f1 6).map tob := ⟨_, rfl⟩
  have hX6 : X.length = 6 := by rw [hX, l6]
  have hY6 : Y.length = 6 := by rw [hY, l6]
  have x6 := w6 r.f0 h0
  have y6 := w6 r.f1 h1
  rw [← hX] at x6
  rw [← hY] at y6
  rw [e, ← hX, ← hY]
  match X, hX6, Y, hY6, x6, y6 with
  | [a, b, c, d, e, f], _, [g, h', i, j, k, l], _, x6, y6 =>
    show (⟨((valA 0 [a, b, c, d, e, f] : Nat) : Int), ((valA 0 [g, h', i, j, k, l] : Nat) : Int), (((tob (r.f2 % 256)).toNat : Nat) : Int), sg (tob (r.f3 % 256)).toNat, (((tob (r.f4 % 256)).toNat : Nat) : Int), (((tob (r.f5 % 256)).toNat : Nat) : Int), (((tob (r.f6 % 256)).toNat : Nat) : Int), sg (tob (r.f7 % 256)).toNat, ((256 * (tob (r.f8 / 256 % 256)).toNat + (tob (r.f8 / 1 % 256)).toNat : Nat) : Int)⟩ : R) = r
    rw [x6, y6, w1 _ ⟨by have := h2.1; omega, by have := h2.2; omega⟩, ws _ ⟨h3.1, by have := h3.2; omega⟩, w1 _ h4, w1 _ h5, w1 _ h6, ws _ h7, w2 _ h8]
def recs (l : List R) : List UInt8 := l.flatMap recB
theorem recs_len (l : List R) : (recs l).length = 20 * l.length := by
  induction l with
  | nil => rfl
  | cons r l ih => unfold recs at ih ⊢; rw [List.flatMap_cons, List.length_append, ih, recB_len, List.length_cons]; omega
theorem recs_app (a b : List R) : recs (a ++ b) = recs a ++ recs b := by unfold recs; rw [List.flatMap_append]
theorem allS_back : ∀ (l : List R) (acc : List R), allR l → allS l.length (recs l) acc = (acc ++ l, true) := by
  intro l
  induction l with
  | nil =>
    intro acc _
    show (if recs [] = [] then (acc, true) else ([], false)) = _
    rw [if_pos (show recs [] = [] from rfl), List.append_nil]
  | cons r l ih =>
    intro acc h
    obtain ⟨h1, h2⟩ := (allR_cons r l).1 h
    have et : (recs (r :: l)).take 20 = recB r := by
      unfold recs; rw [List.flatMap_cons]
      rw [show (20 : Nat) = (recB r).length from (recB_len r).symm, List.take_left]
    have ed : (recs (r :: l)).drop 20 = recs l := by
      unfold recs; rw [List.flatMap_cons]
      rw [show (20 : Nat) = (recB r).length from (recB_len r).symm, List.drop_left]
    rw [List.length_cons]
    unfold allS
    rw [et, ed, recG_recB r h1, if_pos h1, ih _ h2, List.append_assoc]
    rfl
def GoodR (s : List UInt8) (r : List R × Bool) : Prop := (r.2 = true ∧ recs r.1 = s ∧ allR r.1) ∨ (r.2 = false ∧ r.1 = [])
theorem allS_good (u : List UInt8) : ∀ (n : Nat) (s : List UInt8) (acc : List R), s.length / 20 = n → recs acc ++ s = u → allR acc → GoodR u (allS n s acc) := by
  intro n
  induction n with
  | zero =>
    intro s acc hn hu ha
    unfold allS
    by_cases c : s = []
    · rw [if_pos c]; refine .inl ⟨rfl, ?_, ha⟩; rw [c, List.append_nil] at hu; exact hu
    · rw [if_neg c]; exact .inr ⟨rfl, rfl⟩
  | succ n ih =>
    intro s acc hn hu ha
    unfold allS
    by_cases ok : okR (recG (s.take 20))
    · rw [if_pos ok]
      refine ih _ _ (by rw [List.length_drop]; omega) ?_ ((allR_app _ _).2 ⟨ha, fun r hr => by rw [List.mem_singleton] at hr; rw [hr]; exact ok⟩)
      have e1 : recs [recG (s.take 20)] = s.take 20 := by
        unfold recs
        rw [List.flatMap_cons, List.flatMap_nil, List.append_nil]
        exact recB_recG _ (by rw [List.length_take]; omega)
      rw [recs_app, e1, List.append_assoc, List.take_append_drop]
      exact hu
    · rw [if_neg ok]; exact .inr ⟨rfl, rfl⟩
end Go.Proofs.Ytfapfpkijeaapaa.Base

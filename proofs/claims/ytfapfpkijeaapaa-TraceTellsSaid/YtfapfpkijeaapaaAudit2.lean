/- What audit's Get and All, and the reference's, compute: plain Lean. -/
import Derived.Test.YtfapfpkijeaapaaP0
import Derived.Test.YtfapfpkijeaapaaP4
import Derived.Test.YtfapfpkijeaapaaP5
import Derived.Test.YtfapfpkijeaapaaHandAuditGet
import Derived.Test.YtfapfpkijeaapaaAudit1
import Derived.Test.YtfapfpkijeaapaaTwo
namespace Go.Proofs.Ytfapfpkijeaapaa.Base
open Go.RowKit Go.Proofs.YtfapfpkijeaapaaW.PrintWords Go.Proofs.YtfapfpkijeaapaaW.PrintLast Go.Proofs.YtfapfpkijeaapaaW.PrintMore Go.Proofs.Ytfapfpkijeaapaa.P Go.Proofs.Ytfapfpkijeaapaa
set_option linter.unusedVariables false
set_option linter.unusedSimpArgs false

/-- The number of bytes, behind others. -/
def valA : Nat → List UInt8 → Nat
  | a, [] => a
  | a, b :: l => valA (256 * a + b.toNat) l
theorem or_join' (a b : Nat) (ha : a < 281474976710656) (hb : b < 256) : Go.bits .or .i64 ((a : Int) * 256) (b : Int) = ((256 * a + b : Nat) : Int) := by
  rw [bits_join .i64 62 (by decide) (fun n h0 h1 => by rw [IntKind.wrap_i64]; omega) 8 _ _ (by omega) (by omega) (by omega) (by omega) (by omega) (by omega)]
  omega
theorem bytesOf_B (s : List UInt8) : bytesOf (B s) = s.map fun b => (b.toNat : Int) := by simp [bytesOf, B]
theorem agetloop (s : List UInt8) (hs : s.length ≤ 6) (d : Nat) : ∀ i a : Nat, i ≤ s.length → s.length - i = d → (a + 1) * 256 ^ d ≤ 281474976710656 → Ev (fun k => audit_get.l0 k (B s) (a : Int) (i : Int)) ((valA a (s.drop i) : Nat) : Int) := by
  induction d with
  | zero =>
    intro i a hi hd ha
    rw [List.drop_eq_nil_of_le (by omega)]
    refine Ev.step (f := fun _ => some (a : Int)) (fun k => ?_) (Ev.now _)
    simp only [audit_get.l0]
    rw [B_size, if_neg (by omega)]
  | succ d ih =>
    intro i a hi hd ha
    have hlt : i < s.length := by omega
    have edrop : s.drop i = s[i] :: s.drop (i + 1) := List.drop_eq_getElem_cons hlt
    have hb := byte_lt s[i]
    have hp : 1 ≤ 256 ^ d := Nat.one_le_pow _ _ (by decide)
    have hp1 : 256 ^ (d + 1) = 256 * 256 ^ d := by rw [Nat.pow_succ, Nat.mul_comm]
    have h1 : (256 * a + (s[i]).toNat + 1) * 256 ^ d ≤ 281474976710656 := by
      refine Nat.le_trans (Nat.mul_le_mul_right _ (show 256 * a + (s[i]).toNat + 1 ≤ (a + 1) * 256 by omega)) ?_
      rw [Nat.mul_assoc, ← hp1]; exact ha
    have h2 : a < 281474976710656 := by
      have : (a + 1) * 1 ≤ (a + 1) * 256 ^ (d + 1) := Nat.mul_le_mul_left _ (Nat.one_le_pow _ _ (by decide))
      omega
    rw [edrop]
    refine Ev.step (f := fun k => audit_get.l0 k (B s) ((256 * a + (s[i]).toNat : Nat) : Int) ((i + 1 : Nat) : Int)) (fun k => ?_) (ih (i + 1) _ (by omega) (by omega) h1)
    clear h1 ih hp1 ha
    have er : rd (bytesOf (B s)) (i : Int) = ((s[i]).toNat : Int) := by
      rw [bytesOf_B, rdI_get _ i (by rw [List.length_map]; exact hlt), List.getElem_map]
    simp only [audit_get.l0]
    rw [B_size, if_pos (by omega), if_pos (by omega), er, w_id (x := (a : Int) * 256) (by omega) (by omega), w_id (x := ((s[i]).toNat : Int)) (by omega) (by omega), or_join' _ _ h2 hb, w_id (by omega) (by omega)]
    rfl
theorem audit_get_is (s : List UInt8) (hs : s.length ≤ 6) : Ev (fun k => audit_get.f k (B s)) ((valA 0 s : Nat) : Int) := by
  have h := agetloop s hs s.length 0 0 (by omega) (by omega) (by
    have : 256 ^ s.length ≤ 256 ^ 6 := Nat.pow_le_pow_right (by decide) hs
    have e : (256 : Nat) ^ 6 = 281474976710656 := by decide
    omega)
  refine Ev.congr (fun k => ?_) h
  unfold audit_get.f
  rw [B_size, if_pos (by omega)]
  rfl
theorem list20 (s : List UInt8) (h : s.length = 20) : ∃ a b c d e f g h' i j k l m n o p q r s' t, s = [a, b, c, d, e, f, g, h', i, j, k, l, m, n, o, p, q, r, s', t] := by
  match s, h with
  | [a, b, c, d, e, f, g, h', i, j, k, l, m, n, o, p, q, r, s', t], _ => exact ⟨a, b, c, d, e, f, g, h', i, j, k, l, m, n, o, p, q, r, s', t, rfl⟩
/-- A byte, 255 being -1. -/
def sg (c : Nat) : Int := if c < 128 then (c : Int) else (c : Int) - 256
def ls (c : Nat) : Int := if c = 255 then -1 else (c : Int)
theorem signed_is (c : Nat) (h : c < 256) : audit_signed.f (c : Int) = some (sg c) := by
  unfold audit_signed.f sg
  have : IntKind.i8.wrap (c : Int) = if c < 128 then (c : Int) else (c : Int) - 256 := by
    have key : ∀ c : Fin 256, IntKind.i8.wrap ((c.val : Nat) : Int) = if c.val < 128 then (c.val : Int) else (c.val : Int) - 256 := by decide +kernel
    exact key ⟨c, h⟩
  rw [this, w_id (by split <;> omega) (by split <;> omega)]
def cut (s : List UInt8) (i n : Nat) : List UInt8 := (s.drop i).take n
/-- The record of bytes. -/
def recG (s : List UInt8) : R := ⟨(valA 0 (cut s 0 6) : Nat), (valA 0 (cut s 6 6) : Nat), (b1 s 12 : Nat), sg (b1 s 13), (b1 s 14 : Nat), (b1 s 15 : Nat), (b1 s 16 : Nat), sg (b1 s 17), (g2 s 18 : Nat)⟩
def recH (s : List UInt8) : R := ⟨(valA 0 (cut s 0 6) : Nat), (valA 0 (cut s 6 6) : Nat), (b1 s 12 : Nat), ls (b1 s 13), (b1 s 14 : Nat), (b1 s 15 : Nat), (b1 s 16 : Nat), ls (b1 s 17), (g2 s 18 : Nat)⟩
theorem recGH (s : List UInt8) : (okR (recG s) ↔ okR (recH s)) ∧ (okR (recG s) → recG s = recH s) := by
  have h3 := b1_lt s 13
  have h7 := b1_lt s 17
  have hg : okR (recG s) → sg (b1 s 13) = ls (b1 s 13) ∧ sg (b1 s 17) = ls (b1 s 17) := by
    rintro ⟨_, _, _, g3, _, _, _, g7, _⟩
    replace g3 : inR (-1) (sg (b1 s 13)) 15 := g3
    replace g7 : inR (-1) (sg (b1 s 17)) 63 := g7
    unfold inR sg at g3 g7
    unfold sg ls
    constructor
    · split at g3 <;> (repeat' split) <;> omega
    · split at g7 <;> (repeat' split) <;> omega
  have hh : okR (recH s) → sg (b1 s 13) = ls (b1 s 13) ∧ sg (b1 s 17) = ls (b1 s 17) := by
    rintro ⟨_, _, _, g3, _, _, _, g7, _⟩
    replace g3 : inR (-1) (ls (b1 s 13)) 15 := g3
    replace g7 : inR (-1) (ls (b1 s 17)) 63 := g7
    unfold inR ls at g3 g7
    unfold sg ls
    constructor
    · split at g3 <;> (repeat' split) <;> omega
    · split at g7 <;> (repeat' split) <;> omega
  have he : sg (b1 s 13) = ls (b1 s 13) ∧ sg (b1 s 17) = ls (b1 s 17) → recG s = recH s := by
    rintro ⟨e1, e2⟩
    unfold recG recH
    rw [e1, e2]
  exact ⟨⟨fun h => (he (hg h)) ▸ h, fun h => (he (hh h)) ▸ h⟩, fun h => he (hg h)⟩
def tupR (r : R) (b : Bool) : Int × Int × Int × Int × Int × Int × Int × Int × Int × Bool := (r.f0, r.f1, r.f2, r.f3, r.f4, r.f5, r.f6, r.f7, r.f8, b)
def resG (s : List UInt8) : Int × Int × Int × Int × Int × Int × Int × Int × Int × Bool := if s.length = 20 ∧ okR (recG s) then tupR (recG s) true else (0, 0, 0, 0, 0, 0, 0, 0, 0, false)
theorem one_val (s : List UInt8) (i : Nat) (h : i < s.length) : valA 0 ((s.take (i + 1)).drop i) = b1 s i := by
  rw [List.drop_take, show i + 1 - i = 1 by omega, List.drop_eq_getElem_cons h]
  unfold b1
  rw [List.getElem?_eq_getElem h]
  show 256 * 0 + _ = _
  simp
theorem pair_val (s : List UInt8) (h : s.length = 20) : valA 0 ((s.take 20).drop 18) = g2 s 18 := by
  obtain ⟨a, b, c, d, e, f, g, h', i, j, k, l, m, n, o, p, q, r, s', t, rfl⟩ := list20 s h
  show 256 * (256 * 0 + s'.toNat) + t.toNat = 256 * s'.toNat + t.toNat
  omega
theorem audit_Get_is (s : List UInt8) (hs : s.length ≤ 1099511627776) : Ev (fun k => audit_Get.f k (B s)) (resG s) := by
  unfold audit_Get.f resG
  by_cases h : s.length = 20
  · refine Ev.congr (fun k => if_pos (by rw [B_size]; omega)) ?_
    have hz : ((B s).size : Int) = 20 := by rw [B_size]; omega
    have b : ∀ i, bt (B s) ((i : Nat) : Int) = ((b1 s i : Nat) : Int) := fun i => by rw [B_bt', Int.toNat_natCast]
    have len : ∀ i j, i ≤ j → j ≤ 20 → j - i ≤ 6 → ((s.take j).drop i).length ≤ 6 := fun i j _ _ _ => by rw [List.length_drop, List.length_take]; omega
    refine Ev.congr (fun k => if_pos (by decide)) (Ev.congr (fun k => if_pos (by omega)) ?_)
    refine Ev.congr (fun k => by rw [B_cut]) ?_
    refine Ev.bind (audit_get_is _ (len 0 6 (by omega) (by omega) (by omega))) ?_
    refine Ev.congr (fun k => if_pos (by decide)) (Ev.congr (fun k => if_pos (by omega)) ?_)
    refine Ev.congr (fun k => by rw [B_cut]) ?_
    refine Ev.bind (audit_get_is _ (len 6 12 (by omega) (by omega) (by omega))) ?_
    refine Ev.congr (fun k => if_pos (by decide)) (Ev.congr (fun k => if_pos (by omega)) ?_)
    refine Ev.congr (fun k => by rw [B_cut]) ?_
    refine Ev.bind (audit_get_is _ (len 12 13 (by omega) (by omega) (by omega))) ?_
    refine Ev.congr (fun k => if_pos (by omega)) ?_
    refine Ev.congr (fun k => by rw [show bt (B s) 13 = ((b1 s 13 : Nat) : Int) from b 13, signed_is _ (b1_lt s 13), Option.bind_some]) ?_
    refine Ev.congr (fun k => if_pos (by decide)) (Ev.congr (fun k => if_pos (by omega)) ?_)
    refine Ev.congr (fun k => by rw [B_cut]) ?_
    refine Ev.bind (audit_get_is _ (len 14 15 (by omega) (by omega) (by omega))) ?_
    refine Ev.congr (fun k => if_pos (by decide)) (Ev.congr (fun k => if_pos (by omega)) ?_)
    refine Ev.congr (fun k => by rw [B_cut]) ?_
    refine Ev.bind (audit_get_is _ (len 15 16 (by omega) (by omega) (by omega))) ?_
    refine Ev.congr (fun k => if_pos (by decide)) (Ev.congr (fun k => if_pos (by omega)) ?_)
    refine Ev.congr (fun k => by rw [B_cut]) ?_
    refine Ev.bind (audit_get_is _ (len 16 17 (by omega) (by omega) (by omega))) ?_
    refine Ev.congr (fun k => if_pos (by omega)) ?_
    refine Ev.congr (fun k => by rw [show bt (B s) 17 = ((b1 s 17 : Nat) : Int) from b 17, signed_is _ (b1_lt s 17), Option.bind_some]) ?_
    refine Ev.congr (fun k => if_pos (by omega)) ?_
    refine Ev.congr (fun k => by rw [B_size, h, B_cut]) ?_
    refine Ev.bind (audit_get_is _ (len 18 20 (by omega) (by omega) (by omega))) ?_
    have e : ∀ k, audit_Right.f k ((valA 0 ((s.take 6).drop 0) : Nat) : Int) ((valA 0 ((s.take 12).drop 6) : Nat) : Int) ((valA 0 ((s.take 13).drop 12) : Nat) : Int) (sg (b1 s 13)) ((valA 0 ((s.take 15).drop 14) : Nat) : Int) ((valA 0 ((s.take 16).drop 15) : Nat) : Int) ((valA 0 ((s.take 17).drop 16) : Nat) : Int) (sg (b1 s 17)) ((valA 0 ((s.take 20).drop 18) : Nat) : Int) = audit_Right.f k (recG s).f0 (recG s).f1 (recG s).f2 (recG s).f3 (recG s).f4 (recG s).f5 (recG s).f6 (recG s).f7 (recG s).f8 := by
      intro k
      rw [one_val s 12 (by omega), one_val s 14 (by omega), one_val s 15 (by omega), one_val s 16 (by omega), pair_val s h, List.drop_take, List.drop_take]
      rfl
    have e' : ((((valA 0 ((s.take 6).drop 0) : Nat) : Int), ((valA 0 ((s.take 12).drop 6) : Nat) : Int), ((valA 0 ((s.take 13).drop 12) : Nat) : Int), sg (b1 s 13), ((valA 0 ((s.take 15).drop 14) : Nat) : Int), ((valA 0 ((s.take 16).drop 15) : Nat) : Int), ((valA 0 ((s.take 17).drop 16) : Nat) : Int), sg (b1 s 17), ((valA 0 ((s.take 20).drop 18) : Nat) : Int), true) : Int × Int × Int × Int × Int × Int × Int × Int × Int × Bool) = tupR (recG s) true := by
      rw [one_val s 12 (by omega), one_val s 14 (by omega), one_val s 15 (by omega), one_val s 16 (by omega), pair_val s h, List.drop_take, List.drop_take]
      rfl
    refine Ev.congr (fun k => by rw [e k]) ?_
    refine Ev.bind (audit_Right_is (recG s)) ?_
    by_cases ok : okR (recG s)
    · rw [if_pos (show s.length = 20 ∧ okR (recG s) from ⟨h, ok⟩)]
      exact Ev.congr (fun k => by rw [decide_eq_true ok, if_pos rfl, e']) (Ev.now _)
    · rw [if_neg (show ¬ (s.length = 20 ∧ okR (recG s)) from fun q => ok q.2)]
      exact Ev.congr (fun k => by rw [decide_eq_false ok, if_neg (by simp)]) (Ev.now _)
  · rw [if_neg (show ¬ (s.length = 20 ∧ okR (recG s)) from fun q => h q.1)]
    exact Ev.congr (fun k => if_neg (by rw [B_size]; omega)) (Ev.now _)
end Go.Proofs.Ytfapfpkijeaapaa.Base

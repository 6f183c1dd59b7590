/- What audit's Right and Put, and the reference's, compute: plain Lean. -/
import Derived.Test.YtfapfpkijeaapaaP0
import Derived.Test.YtfapfpkijeaapaaP4
import Derived.Test.YtfapfpkijeaapaaOpen
import Derived.Test.YtfapfpkijeaapaaBase
namespace Go.Proofs.Ytfapfpkijeaapaa.Base
open Go.RowKit Go.Proofs.YtfapfpkijeaapaaW.PrintWords Go.Proofs.YtfapfpkijeaapaaW.PrintLast Go.Proofs.YtfapfpkijeaapaaW.PrintMore Go.Proofs.Ytfapfpkijeaapaa.P Go.Proofs.Ytfapfpkijeaapaa
set_option linter.unusedVariables false
set_option linter.unusedSimpArgs false

abbrev R := S48
def inR (lo x hi : Int) : Prop := lo ≤ x ∧ x ≤ hi
instance (lo x hi : Int) : Decidable (inR lo x hi) := inferInstanceAs (Decidable (_ ∧ _))
/-- May a record be? -/
def okR (r : R) : Prop := inR 0 r.f0 1099511627776 ∧ inR 0 r.f1 1099511627776 ∧ inR 1 r.f2 4 ∧ inR (-1) r.f3 15 ∧ inR 0 r.f4 255 ∧ inR 0 r.f5 255 ∧ inR 0 r.f6 255 ∧ inR (-1) r.f7 63 ∧ inR 0 r.f8 65535
instance (r : R) : Decidable (okR r) := inferInstanceAs (Decidable (_ ∧ _))
theorem rdT_get (l : List S88) (i : Nat) (h : i < l.length) : rd_T88 l (i : Int) = l[i] := by
  unfold rd_T88; rw [Int.toNat_natCast, List.getD_eq_getElem?_getD, List.getElem?_eq_getElem h]; rfl
theorem right_loop (xs : List S88) (hl : xs.length ≤ 1000) (d : Nat) : ∀ i : Nat, i ≤ xs.length → xs.length - i = d → Ev (fun k => audit_Right.l0 k xs (xs.length : Int) (i : Int)) (decide (∀ t ∈ xs.drop i, inR t.f1 t.f0 t.f2)) := by
  induction d with
  | zero =>
    intro i hi hd
    rw [List.drop_eq_nil_of_le (by omega)]
    exact Ev.step (f := fun _ => some true) (fun k => by simp only [audit_Right.l0]; rw [if_neg (by omega)]) (by simpa using Ev.now _)
  | succ d ih =>
    intro i hi hd
    have hlt : i < xs.length := by omega
    have edrop : xs.drop i = xs[i] :: xs.drop (i + 1) := List.drop_eq_getElem_cons hlt
    rw [edrop]
    by_cases c1 : inR (xs[i]).f1 (xs[i]).f0 (xs[i]).f2
    · have e : (∀ t ∈ xs[i] :: xs.drop (i + 1), inR t.f1 t.f0 t.f2) ↔ (∀ t ∈ xs.drop (i + 1), inR t.f1 t.f0 t.f2) := by rw [List.forall_mem_cons]; exact ⟨fun h => h.2, fun h => ⟨c1, h⟩⟩
      rw [decide_eq_decide.2 e]
      refine Ev.step (f := fun k => audit_Right.l0 k xs (xs.length : Int) ((i + 1 : Nat) : Int)) (fun k => ?_) (ih _ (by omega) (by omega))
      obtain ⟨g1, g2⟩ := c1
      simp only [audit_Right.l0]
      rw [if_pos (by omega), if_pos (by omega), if_pos (by omega), rdT_get xs i hlt, if_neg (by omega), if_neg (by omega), w_id (by omega) (by omega)]
      rfl
    · rw [decide_eq_false (fun h => c1 (h _ List.mem_cons_self))]
      refine Ev.step (f := fun _ => some false) (fun k => ?_) (Ev.now _)
      simp only [audit_Right.l0]
      rw [if_pos (by omega), if_pos (by omega), if_pos (by omega), rdT_get xs i hlt]
      by_cases c2 : (xs[i]).f0 < (xs[i]).f1
      · rw [if_pos c2]
      · rw [if_neg c2, if_pos (by unfold inR at c1; omega)]
theorem audit_Right_is (r : R) : Ev (fun k => audit_Right.f k r.f0 r.f1 r.f2 r.f3 r.f4 r.f5 r.f6 r.f7 r.f8) (decide (okR r)) := by
  have h := right_loop [(⟨r.f0, 0, 1099511627776⟩ : S88), ⟨r.f1, 0, 1099511627776⟩, ⟨r.f2, 1, 4⟩, ⟨r.f3, (-1), 15⟩, ⟨r.f4, 0, 255⟩, ⟨r.f5, 0, 255⟩, ⟨r.f6, 0, 255⟩, ⟨r.f7, (-1), 63⟩, ⟨r.f8, 0, 65535⟩] (by show 9 ≤ 1000; decide) 9 0 (Nat.zero_le _) rfl
  have e : (∀ t ∈ [(⟨r.f0, 0, 1099511627776⟩ : S88), ⟨r.f1, 0, 1099511627776⟩, ⟨r.f2, 1, 4⟩, ⟨r.f3, (-1), 15⟩, ⟨r.f4, 0, 255⟩, ⟨r.f5, 0, 255⟩, ⟨r.f6, 0, 255⟩, ⟨r.f7, (-1), 63⟩, ⟨r.f8, 0, 65535⟩], inR t.f1 t.f0 t.f2) ↔ okR r := by
    simp only [List.forall_mem_cons]
    exact ⟨fun ⟨h0, h1, h2, h3, h4, h5, h6, h7, h8, _⟩ => ⟨h0, h1, h2, h3, h4, h5, h6, h7, h8⟩, fun ⟨h0, h1, h2, h3, h4, h5, h6, h7, h8⟩ => ⟨h0, h1, h2, h3, h4, h5, h6, h7, h8, fun a ha => by simp at ha⟩⟩
  rw [List.drop_zero, decide_eq_decide.2 e] at h
  refine Ev.congr (fun k => ?_) h
  unfold audit_Right.f
  rw [Option.bind_some]
  rfl
/-- So many bytes of a number, the highest first. -/
def beI (n : Int) : Nat → List Int
  | 0 => []
  | m + 1 => (n / 2 ^ (8 * m)) % 256 :: beI n m
theorem beI_len (n : Int) : ∀ m, (beI n m).length = m
  | 0 => rfl
  | m + 1 => by rw [beI, List.length_cons, beI_len n m]
theorem rdI_get (l : List Int) (i : Nat) (h : i < l.length) : rd l (i : Int) = l[i] := by
  unfold rd; rw [Int.toNat_natCast, List.getD_eq_getElem?_getD, List.getElem?_eq_getElem h]; rfl
/-- A record's bytes, as numbers. -/
def recI (r : R) : List Int := beI r.f0 6 ++ beI r.f1 6 ++ [r.f2 % 256, r.f3 % 256, r.f4 % 256, r.f5 % 256, r.f6 % 256, r.f7 % 256] ++ beI r.f8 2
def tob (n : Int) : UInt8 := UInt8.ofNat n.toNat
def recB (r : R) : List UInt8 := (recI r).map tob
theorem recB_len (r : R) : (recB r).length = 20 := by unfold recB recI; simp only [List.length_map, List.length_append, beI_len]; rfl
theorem tob_eq (a : Int) (n : Nat) (h : a.toNat = n) : tob a = UInt8.ofNat n := by unfold tob; rw [h]
end Go.Proofs.Ytfapfpkijeaapaa.Base

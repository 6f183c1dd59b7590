/- A frame's bytes by the reference, and that they are read back. -/
import Derived.Test.YtfapfpkijeaapaaP0
import Derived.Test.YtfapfpkijeaapaaP7
import Derived.Test.YtfapfpkijeaapaaP16
import Derived.Test.YtfapfpkijeaapaaMbap
import Derived.Test.YtfapfpkijeaapaaRefTwo
namespace Go.Proofs.Ytfapfpkijeaapaa.Base
open Go.RowKit Go.Proofs.YtfapfpkijeaapaaW.PrintWords Go.Proofs.YtfapfpkijeaapaaW.PrintLast Go.Proofs.YtfapfpkijeaapaaW.PrintMore Go.Proofs.Ytfapfpkijeaapaa.P
set_option linter.unusedVariables false
set_option linter.unusedSimpArgs false

theorem ref01_Of_is (a : Int) (h0 : 0 ≤ a) (h1 : a ≤ 65535) : ref01_Of.f a = some (B (two a.toNat)) := by
  unfold ref01_Of.f
  rw [ref01_Put_is, if_pos ⟨h0, h1⟩]
  rfl
/-- May a frame be? -/
def okF (i u : Int) (p : List UInt8) : Prop := 0 ≤ i ∧ i ≤ 65535 ∧ 0 ≤ u ∧ u ≤ 255 ∧ 1 ≤ p.length ∧ p.length ≤ 253
instance (i u : Int) (p : List UInt8) : Decidable (okF i u p) := inferInstanceAs (Decidable (_ ∧ _))
theorem ref08_Right_is (i u : Int) (p : List UInt8) : ref08_Right.f i u (B p) = some (decide (okF i u p)) := by
  unfold ref08_Right.f
  rw [B_size]
  by_cases h : okF i u p
  · obtain ⟨h1, h2, h3, h4, h5, h6⟩ := h
    rw [if_pos h1, if_pos h2, if_pos h3, if_pos h4, if_pos (by omega), decide_eq_true (show okF i u p from ⟨h1, h2, h3, h4, h5, h6⟩), decide_eq_true (show (p.length : Int) ≤ 253 by omega)]
  · rw [decide_eq_false h]
    by_cases c1 : i ≥ 0
    · by_cases c2 : i ≤ 65535
      · by_cases c3 : u ≥ 0
        · by_cases c4 : u ≤ 255
          · by_cases c5 : (p.length : Int) ≥ 1
            · rw [if_pos c1, if_pos c2, if_pos c3, if_pos c4, if_pos c5, decide_eq_false (fun c6 => h ⟨c1, c2, c3, c4, by omega, by omega⟩)]
            · rw [if_pos c1, if_pos c2, if_pos c3, if_pos c4, if_neg c5]
          · rw [if_pos c1, if_pos c2, if_pos c3, if_neg c4]
        · rw [if_pos c1, if_pos c2, if_neg c3]
      · rw [if_pos c1, if_neg c2]
    · rw [if_neg c1]
/-- A frame's bytes. -/
def putF (i u : Int) (p : List UInt8) : List UInt8 := two i.toNat ++ [0, 0] ++ two (p.length + 1) ++ [UInt8.ofNat u.toNat] ++ p
theorem putF_len (i u : Int) (p : List UInt8) : (putF i u p).length = p.length + 7 := by simp [putF, two]
theorem ref08_Put_is (i u : Int) (p : List UInt8) : ref08_Put.f i u (B p) = some (if okF i u p then (B (putF i u p), true) else (B [], false)) := by
  unfold ref08_Put.f
  rw [ref08_Right_is]
  rw [Option.bind_some]
  by_cases h : okF i u p
  · rw [decide_eq_true h, if_pos rfl, if_pos h]
    obtain ⟨h1, h2, h3, h4, h5, h6⟩ := h
    rw [ref01_Of_is i h1 h2]
    rw [Option.bind_some]
    have hl2 : ∀ n, (B (two n)).size = 2 := fun n => by rw [B_size]; rfl
    have hp : (B p).size = p.length := B_size p
    have ew : wrap64 (1 + (p.length : Int)) = ((p.length + 1 : Nat) : Int) := by rw [w_id (by omega) (by omega)]; omega
    rw [hl2, if_pos (by omega), hp, ew, ref01_Of_is _ (by omega) (by omega)]
    rw [Option.bind_some, Int.toNat_natCast]
    have hu : (u % 256).toNat = u.toNat := by omega
    have en : strOfNums [u % 256] = B [UInt8.ofNat u.toNat] := by rw [B_nums]; simp [hu]
    have ez : (⟨#[0, 0]⟩ : ByteArray) = B [0, 0] := rfl
    have e4 : ∀ (a b c d : List UInt8), ((B a ++ B [0, 0]) ++ B b ++ B c) ++ B d = B (a ++ [0, 0] ++ b ++ c ++ d) := fun a b c d => by rw [B_cat, B_cat, B_cat, B_cat]
    have e5 : (B [UInt8.ofNat u.toNat]).size = 1 := by rw [B_size]; rfl
    rw [Option.bind_some, en, ez, e4, e5, hl2, if_pos (by omega), if_pos (by omega), if_pos (by omega)]
    unfold putF
    rfl
  · rw [decide_eq_false h, if_neg (by simp), if_neg h]
    rfl
theorem put_head {i u : Int} {p : List UInt8} (h : okF i u p) (rest : List UInt8) : g2 (putF i u p ++ rest) 0 = i.toNat ∧ g2 (putF i u p ++ rest) 2 = 0 ∧ g2 (putF i u p ++ rest) 4 = p.length + 1 ∧ b1 (putF i u p ++ rest) 6 = u.toNat := by
  obtain ⟨h1, h2, h3, h4, h5, h6⟩ := h
  have t1 := two_val i.toNat (by omega)
  have t2 := two_val (p.length + 1) (by omega)
  have t3 : (UInt8.ofNat u.toNat).toNat = u.toNat := by rw [UInt8.toNat_ofNat']; omega
  refine ⟨?_, ?_, ?_, ?_⟩
  · simp only [g2, b1, putF, two, List.cons_append, List.nil_append, List.getElem?_cons_zero, List.getElem?_cons_succ, Nat.reduceAdd, Option.getD_some, t1]
    omega
  · simp [g2, b1, putF, two]
  · simp only [g2, b1, putF, two, List.cons_append, List.nil_append, List.getElem?_cons_zero, List.getElem?_cons_succ, Nat.reduceAdd, Option.getD_some, t2]
    omega
  · simp only [b1, putF, two, List.cons_append, List.nil_append, List.getElem?_cons_zero, List.getElem?_cons_succ, Option.getD_some, t3]
theorem put_good {i u : Int} {p : List UInt8} (h : okF i u p) (rest : List UInt8) : ¬ badHead (putF i u p ++ rest) := by
  obtain ⟨e1, e2, e3, e4⟩ := put_head h rest
  obtain ⟨h1, h2, h3, h4, h5, h6⟩ := h
  unfold badHead
  omega
end Go.Proofs.Ytfapfpkijeaapaa.Base

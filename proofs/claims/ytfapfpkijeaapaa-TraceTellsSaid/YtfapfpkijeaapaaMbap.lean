/- What mbap.Need, mbap.Get and the references' like compute, on lists of bytes. -/
import Derived.Test.YtfapfpkijeaapaaP0
import Derived.Test.YtfapfpkijeaapaaP11
import Derived.Test.YtfapfpkijeaapaaGet
namespace Go.Proofs.Ytfapfpkijeaapaa.Base
open Go.RowKit Go.Proofs.YtfapfpkijeaapaaW.PrintWords Go.Proofs.YtfapfpkijeaapaaW.PrintLast Go.Proofs.YtfapfpkijeaapaaW.PrintMore Go.Proofs.Ytfapfpkijeaapaa.P
set_option linter.unusedVariables false
set_option linter.unusedSimpArgs false

/-- Is the head (six bytes at least) one that may not be? -/
def badHead (l : List UInt8) : Prop := g2 l 2 ≠ 0 ∨ g2 l 4 < 2 ∨ g2 l 4 > 254
instance (l : List UInt8) : Decidable (badHead l) := inferInstanceAs (Decidable (_ ∨ _ ∨ _))
/-- How many bytes a frame needs; an error's number. -/
def need (l : List UInt8) : Int × Int := if l.length < 6 then (0, 0) else if badHead l then (0, 5) else (((g2 l 4 + 6 : Nat) : Int), 0)
theorem mbap_Need_is (l : List UInt8) (h : l.length ≤ 4611686018427387904) : mbap_Need.f (B l) = some (need l) := by
  unfold mbap_Need.f need
  rw [twin_Get_is l h 2 (by omega), twin_Get_is l h 4 (by omega)]
  simp only [Option.bind_some]
  have h2 := g2_lt l 2
  have h4 := g2_lt l 4
  by_cases h6 : l.length < 6
  · rw [if_pos h6]
    have : (tGet l 4).2 = false := by unfold tGet; rw [if_neg (by omega)]
    rw [this]
    rfl
  · rw [if_neg h6]
    have e4 : tGet l 4 = (((g2 l 4 : Nat) : Int), true) := by unfold tGet; rw [if_pos (by omega)]; rfl
    have e2 : tGet l 2 = (((g2 l 2 : Nat) : Int), true) := by unfold tGet; rw [if_pos (by omega)]; rfl
    rw [e4, e2]
    simp only [if_true]
    by_cases c1 : g2 l 2 = 0
    · rw [if_pos (by omega)]
      by_cases c2 : g2 l 4 < 2
      · rw [if_pos (by omega), if_pos (by unfold badHead; omega)]
      · rw [if_neg (by omega)]
        by_cases c3 : g2 l 4 > 254
        · rw [if_pos (by omega), if_pos (by unfold badHead; omega)]
        · rw [if_neg (by omega), if_neg (by unfold badHead; omega), w_id (by omega) (by omega)]
          simp
    · rw [if_neg (by omega), if_pos (by unfold badHead; omega)]
/-- The frame of bytes; an error's number. -/
def get (l : List UInt8) : Int × Int × ByteArray × Int :=
  if (need l).2 = 0 ∧ (need l).1 ≠ 0 ∧ (need l).1 = l.length then ((g2 l 0 : Nat), (b1 l 6 : Nat), B (l.drop 7), 0) else (0, 0, B [], 5)
theorem need_ge {l : List UInt8} (h2 : (need l).2 = 0) (h1 : (need l).1 ≠ 0) : ¬ l.length < 6 ∧ ¬ badHead l ∧ (need l).1 = ((g2 l 4 + 6 : Nat) : Int) ∧ 8 ≤ g2 l 4 + 6 ∧ g2 l 4 + 6 ≤ 260 := by
  unfold need at *
  by_cases h6 : l.length < 6
  · rw [if_pos h6] at h1; exact absurd rfl h1
  · rw [if_neg h6] at h1 h2
    by_cases hb : badHead l
    · rw [if_pos hb] at h2; exact absurd h2 (by decide)
    · rw [if_neg h6, if_neg hb]
      refine ⟨h6, hb, rfl, ?_, ?_⟩ <;> (unfold badHead at hb; omega)
theorem mbap_Get_is (l : List UInt8) (h : l.length ≤ 4611686018427387904) : mbap_Get.f (B l) = some (get l) := by
  unfold mbap_Get.f get
  rw [mbap_Need_is l h, twin_Get_is l h 0 (by omega), B_size]
  simp only [Option.bind_some]
  by_cases c1 : (need l).2 = 0
  · by_cases c2 : (need l).1 = 0
    · rw [if_pos c1, if_pos c2, if_neg (by omega)]; rfl
    · rw [if_pos c1, if_neg c2]
      by_cases c3 : (need l).1 = (l.length : Int)
      · obtain ⟨g1, -, g3, g4, -⟩ := need_ge c1 c2
        rw [if_pos c3, if_pos (And.intro c1 (And.intro c2 c3)), if_pos (by omega), if_pos (by omega), B_bt', B_cut, wbyte]
        have e0 : tGet l 0 = (((g2 l 0 : Nat) : Int), true) := by unfold tGet; rw [if_pos (by omega)]; rfl
        rw [e0, List.take_length]
        rfl
      · rw [if_neg c3, if_neg (fun hh => c3 hh.2.2)]; rfl
  · rw [if_neg c1, if_neg (fun hh => c1 hh.1)]; rfl
end Go.Proofs.Ytfapfpkijeaapaa.Base

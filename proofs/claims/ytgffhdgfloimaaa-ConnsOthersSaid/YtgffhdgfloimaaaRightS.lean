/- Which streams are right. -/
import Derived.Test.YtgffhdgfloimaaaP0
import Derived.Test.YtgffhdgfloimaaaP3
import Derived.Test.YtgffhdgfloimaaaP6
import Derived.Test.YtgffhdgfloimaaaStream
namespace Go.Proofs.Ytgffhdgfloimaaa.Base
open Go.RowKit Go.Proofs.YtgffhdgfloimaaaW.PrintWords Go.Proofs.YtgffhdgfloimaaaW.PrintLast Go.Proofs.YtgffhdgfloimaaaW.PrintMore Go.Proofs.Ytgffhdgfloimaaa.P
set_option linter.unusedVariables false
set_option linter.unusedSimpArgs false

/-- Is it a stream? -/
def right (l : List UInt8) (bad : Bool) : Bool := if bad = true then l == [] else decide (Pending l)
theorem right_need (l : List UInt8) : (if (need l).2 = 0 then (if (need l).1 = 0 then (some true) else (some (decide ((need l).1 > (l.length : Int))))) else (some false)) = some (decide (Pending l)) := by
  by_cases h6 : l.length < 6
  · rw [need_more h6]; simp [Pending, h6]
  · by_cases hb : badHead l
    · rw [need_bad h6 hb]; simp [Pending, h6, hb]
    · rw [need_is h6 hb]
      have := nb hb
      simp only [if_true]
      rw [if_neg (by omega)]
      congr 1
      exact decide_eq_decide.2 ⟨fun h => Or.inr ⟨hb, by omega⟩, fun h => by
        rcases h with h | ⟨_, h⟩
        · exact absurd h h6
        · omega⟩
theorem stream_Right_is (l : List UInt8) (bad : Bool) (h : l.length ≤ 4611686018427387904) : stream_Right.f (B l) bad = some (right l bad) := by
  unfold stream_Right.f right
  cases bad with
  | true => simp only [if_true]; rw [B_list]
  | false =>
    rw [if_neg (by simp), if_neg (by simp), mbap_Need_is l h, B_size]
    exact right_need l
theorem ref09_Right_is (l : List UInt8) (bad : Bool) (h : l.length ≤ 4611686018427387904) : ref09_Right.f (B l) bad = some (right l bad) := by
  unfold ref09_Right.f right
  cases bad with
  | true => simp only [if_true]; rw [B_list]
  | false =>
    rw [if_neg (by simp), if_neg (by simp), ref08_Need_is l h, B_size]
    exact right_need l
end Go.Proofs.Ytgffhdgfloimaaa.Base

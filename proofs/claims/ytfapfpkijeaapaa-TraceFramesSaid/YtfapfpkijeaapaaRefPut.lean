/- A frame's bytes are read back from a stream. -/
import Derived.Test.YtfapfpkijeaapaaP0
import Derived.Test.YtfapfpkijeaapaaStream
import Derived.Test.YtfapfpkijeaapaaRefPutA
namespace Go.Proofs.Ytfapfpkijeaapaa.Base
open Go.RowKit Go.Proofs.YtfapfpkijeaapaaW.PrintWords Go.Proofs.YtfapfpkijeaapaaW.PrintLast Go.Proofs.YtfapfpkijeaapaaW.PrintMore Go.Proofs.Ytfapfpkijeaapaa.P
set_option linter.unusedVariables false
set_option linter.unusedSimpArgs false

theorem put_frame {i u : Int} {p : List UInt8} (h : okF i u p) : frameOf (putF i u p) = ⟨i, u, B p⟩ := by
  have := put_head h []
  rw [List.append_nil] at this
  obtain ⟨e1, e2, e3, e4⟩ := this
  obtain ⟨h1, h2, h3, h4, h5, h6⟩ := h
  unfold frameOf
  rw [e1, e4, show ((i.toNat : Nat) : Int) = i by omega, show ((u.toNat : Nat) : Int) = u by omega]
  rfl
/-- A frame's bytes, and more, are that frame, and what more makes. -/
theorem run_put {i u : Int} {p : List UInt8} (h : okF i u p) (rest : List UInt8) : run (putF i u p ++ rest) = (⟨i, u, B p⟩ :: (run rest).1, (run rest).2) := by
  obtain ⟨e1, e2, e3, e4⟩ := put_head h rest
  have hl := putF_len i u p
  have hn : g2 (putF i u p ++ rest) 4 + 6 = (putF i u p).length := by rw [e3, hl]
  rw [run_step (by rw [List.length_append]; omega) (put_good h rest) (by rw [hn, List.length_append]; omega), hn]
  rw [List.take_left, List.drop_left, put_frame h]
/-- A frame's beginning waits. -/
theorem put_part {i u : Int} {p : List UInt8} (h : okF i u p) {c : Nat} (hc : c < (putF i u p).length) : Pending ((putF i u p).take c) := by
  by_cases h6 : c < 6
  · exact Or.inl (by rw [List.length_take]; omega)
  · right
    have hg := put_good h []
    have hh := put_head h []
    rw [List.append_nil] at hg hh
    have hl := putF_len i u p
    obtain ⟨q1, q2, q3⟩ := head_take (n := c) (by omega) hg (by omega)
    exact ⟨q2, by rw [q3, hh.2.2.1, List.length_take]; omega⟩
end Go.Proofs.Ytfapfpkijeaapaa.Base

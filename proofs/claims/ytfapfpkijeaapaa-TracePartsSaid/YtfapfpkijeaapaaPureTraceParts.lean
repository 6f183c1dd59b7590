/- TraceParts: outputs in two parts say what both say; without the document's answer. No condition beyond the ranges of the arguments' kinds. -/
import Derived.Test.YtfapfpkijeaapaaP0
import Derived.Test.YtfapfpkijeaapaaP10
import Derived.Test.YtfapfpkijeaapaaOpen
import Derived.Test.YtfapfpkijeaapaaTrace27
namespace Go.Proofs.Ytfapfpkijeaapaa.Pure
open Go.RowKit Go.Proofs.YtfapfpkijeaapaaW.PrintWords Go.Proofs.YtfapfpkijeaapaaW.PrintLast Go.Proofs.YtfapfpkijeaapaaW.PrintMore Go.Proofs.Ytfapfpkijeaapaa.P Go.Proofs.Ytfapfpkijeaapaa Go.Proofs.Ytfapfpkijeaapaa.Base
set_option linter.unusedVariables false
set_option linter.unusedSimpArgs false

def TracePartsPure : Prop := ∀ (x0 : S24), Open.wf24 x0 → ∃ k, law27_TraceParts.f k x0.f0 x0.f1 x0.f2 x0.f3 = some true
theorem parts_is (l : List Ot) (h : Few l) (c k' conn : Int) (n : Nat) (hn : n ≤ l.length) (hc : Int.tmod (wrap64 c) (wrap64 ((l.length : Int) + 1)) = (n : Int)) (hf : Ev (fun k => law27_few.f k l) true) : Ev (fun k => law27_TraceParts.f k l c k' conn) true := by
  have hl := h.1
  have ha := few_sub h (List.take_sublist n l)
  have hb := few_sub h (List.drop_sublist n l)
  have e0 : wrap64 ((l.length : Int) + 1) = ((l.length + 1 : Nat) : Int) := by rw [w_id (by omega) (by omega)]; rfl
  have sp : ∀ p : Ot → Bool, l.filter p = (l.take n).filter p ++ (l.drop n).filter p := fun p => by rw [← List.filter_append, List.take_append_drop]
  unfold law27_TraceParts.f
  refine Ev.bind hf ?_
  refine Ev.congr (fun k => by rw [if_pos rfl, if_neg (by rw [e0]; omega), hc, if_pos (by omega), if_pos (by omega), Int.toNat_natCast]) ?_
  refine Ev.bind (trace_Records_is ha) (Ev.bind (trace_Records_is hb) (Ev.bind (trace_Records_is h) (Ev.bind awake27 (Ev.congr (fun k => if_pos rfl) ?_))))
  refine Ev.congr (fun k => by rw [trace_Bytes_is h, Option.bind_some, trace_Bytes_is ha, Option.bind_some, trace_Bytes_is hb, Option.bind_some, trace_Closes_is h, trace_Closes_is ha, trace_Closes_is hb]) ?_
  have hx := few_cat ha (fun o => o.f0 == k' && o.f1 == conn)
  have hy := few_cat hb (fun o => o.f0 == k' && o.f1 == conn)
  refine Ev.congr (fun k => by rw [if_pos (by rw [B_size, B_size]; exact Nat.le_trans (Nat.add_le_add hx hy) (by decide)), if_pos (by rw [B_cat, B_list, B_list, ← catO_app, ← sp]), Option.bind_some, Option.bind_some, Option.bind_some]) ?_
  have hz : ((l.filter fun o => o.f0 == 4 || o.f0 == 3 && o.f1 == conn).length : Int) = wrap64 ((((l.take n).filter fun o => o.f0 == 4 || o.f0 == 3 && o.f1 == conn).length : Int) + (((l.drop n).filter fun o => o.f0 == 4 || o.f0 == 3 && o.f1 == conn).length : Int)) := by
    have h1 := List.length_filter_le (fun o : Ot => o.f0 == 4 || o.f0 == 3 && o.f1 == conn) (l.take n)
    have h2 := List.length_filter_le (fun o : Ot => o.f0 == 4 || o.f0 == 3 && o.f1 == conn) (l.drop n)
    have h3 := ha.1
    have h4 := hb.1
    rw [w_id (by omega) (by omega), sp, List.length_append]
    rfl
  refine Ev.congr (fun k => by rw [if_pos hz]) ?_
  have gA : GoodR (recO (l.take n)) (recsO (l.take n)) := allS_good _ _ _ _ rfl rfl (fun r hr => absurd hr (by simp))
  have gB : GoodR (recO (l.drop n)) (recsO (l.drop n)) := allS_good _ _ _ _ rfl rfl (fun r hr => absurd hr (by simp))
  have eC : recO l = recO (l.take n) ++ recO (l.drop n) := by unfold recO; rw [sp, catO_app]
  have lA := allS_len ((recO (l.take n)).length / 20) (recO (l.take n)) []
  have lB := allS_len ((recO (l.drop n)).length / 20) (recO (l.drop n)) []
  have sA : (recO (l.take n)).length ≤ 18000 := few_cat ha _
  have sB : (recO (l.drop n)).length ≤ 18000 := few_cat hb _
  have rA : recsO (l.take n) = allS ((recO (l.take n)).length / 20) (recO (l.take n)) [] := rfl
  have rB : recsO (l.drop n) = allS ((recO (l.drop n)).length / 20) (recO (l.drop n)) [] := rfl
  rw [← rA, List.length_nil] at lA
  rw [← rB, List.length_nil] at lB
  rcases gA with ⟨a1, a2, a3⟩ | ⟨a1, a2⟩
  · refine Ev.congr (fun k => by rw [if_pos a1]) ?_
    rcases gB with ⟨b1, b2, b3⟩ | ⟨b1, b2⟩
    · refine Ev.congr (fun k => by rw [if_pos b1]) ?_
      have hC : recsO l = ((recsO (l.take n)).1 ++ (recsO (l.drop n)).1, true) := by
        have := allS_back ((recsO (l.take n)).1 ++ (recsO (l.drop n)).1) [] ((allR_app _ _).2 ⟨a3, b3⟩)
        have e1 : recs ((recsO (l.take n)).1 ++ (recsO (l.drop n)).1) = recO l := by rw [recs_app, a2, b2, eC]
        have e2 : ((recsO (l.take n)).1 ++ (recsO (l.drop n)).1).length = (recO l).length / 20 := by rw [← e1, recs_len]; omega
        rw [e1, e2] at this
        exact this
      rw [hC]
      refine Ev.congr (fun k => by rw [if_pos rfl, Option.bind_some, List.length_nil, if_pos (by omega), Option.bind_some, List.nil_append, if_pos (by omega)]) ?_
      exact Ev.bind (same_is _ (by rw [List.length_append]; omega)) (Ev.now true)
    · exact Ev.congr (fun k => by rw [if_neg (by rw [b1]; simp)]) (Ev.now true)
  · exact Ev.congr (fun k => by rw [if_neg (by rw [a1]; simp)]) (Ev.now true)
theorem TraceParts_pure : TracePartsPure := by
  intro x hx
  obtain ⟨l, c, k', conn⟩ := x
  obtain ⟨h0, h1, h2, h3⟩ := hx
  suffices h : Ev (fun k => law27_TraceParts.f k l c k' conn) true by
    obtain ⟨k, hk⟩ := h
    exact ⟨k, hk k (Nat.le_refl k)⟩
  rcases few_is l with hf | ⟨hf, h⟩
  · exact Ev.congr (fun k => by unfold law27_TraceParts.f; rfl) (Ev.bind hf (Ev.congr (fun k => by rw [if_neg (by simp)]) (Ev.bind awake27 (Ev.now true))))
  · have hw : 0 ≤ c ∧ c ≤ 255 := bounds_u8 h1
    have hl := h.1
    have e0 : wrap64 ((l.length : Int) + 1) = ((l.length + 1 : Nat) : Int) := by rw [w_id (by omega) (by omega)]; rfl
    have hlt : c.toNat % (l.length + 1) < l.length + 1 := Nat.mod_lt _ (Nat.succ_pos _)
    refine parts_is l h c k' conn (c.toNat % (l.length + 1)) (by omega) ?_ hf
    rw [e0, w_id (by omega) (by omega), Int.tmod_eq_emod_of_nonneg (by omega)]
    obtain ⟨m, rfl⟩ := Int.eq_ofNat_of_zero_le hw.1
    rw [Int.toNat_natCast]
    exact (Int.natCast_emod m (l.length + 1)).symm
end Go.Proofs.Ytfapfpkijeaapaa.Pure

/- trace's Records: what it computes, and that it does. -/
import Derived.Test.YtfapfpkijeaapaaP0
import Derived.Test.YtfapfpkijeaapaaP6
import Derived.Test.YtfapfpkijeaapaaHandTrace
namespace Go.Proofs.Ytfapfpkijeaapaa.P
open Go.RowKit Go.Shelf Go.Proofs.YtfapfpkijeaapaaW.PrintWords
attribute [local go_sem] Oper.semAt_some
set_option linter.unusedVariables false
set_option linter.unusedSimpArgs false
def trace_Records.f (k : Nat) (l : List S40) : Option (List S48 × Bool) := if okO l = true then audit_All.f k ⟨(catO (l.filter fun o => o.f0 == 5)).toArray⟩ else none
theorem trace_Records.mono : ∀ a0 k, LeO (trace_Records.f k a0) (trace_Records.f (k + 1) a0) := by
  intro a0 k
  unfold trace_Records.f
  by_cases h : okO a0 = true
  · rw [if_pos h, if_pos h]; exact audit_All.mono _ _
  · rw [if_neg h, if_neg h]; exact LeO.none _
set_option maxRecDepth 100000 in
set_option maxHeartbeats 4000000 in
theorem trace_Records.calls (k : Nat) (A0 : Option Addr) (c0 : Nat) (l0 : List S40) (r1 : List S48) (r2 : Bool) (w : World) (hr0 : Kd.C k40 w A0 l0.length l0) (hc0 : l0.length ≤ c0) (h : trace_Records.f k l0 = some (r1, r2)) :
    Calls Try.prog 8 #[.slice A0 l0.length c0] w fun e w' => ∃ v0_ : Value, e = .returned (.tuple #[v0_, .bool r2]) ∧ Kd.R k48 48 w' w.heap.size (fun _ => True) v0_ r1 ∧ Below w.heap.size w w' := by
  unfold trace_Records.f at h
  by_cases hok : okO l0 = true
  · rw [if_pos hok] at h
    obtain ⟨hlen, hall⟩ := okO_of hok
    refine (callsIn_wide (n := 10)).1 ?_
    refine callsIn_of_wp Try.func8 rfl trivial ?_ rfl
    simp only [Try.ntmps8, List.size_toArray, List.length_cons, List.length_nil, Nat.reduceAdd, Nat.reduceSub, Array.replicate_succ, Array.replicate_zero, List.push_toArray, List.append_toArray, List.nil_append, List.cons_append]
    gi_wp2
    refine ⟨trivial, (those_in Fence.wide 9 trivial rfl A0 l0.length c0 _ 23 _ rfl _).mono ?_⟩
    rintro e w4 ⟨rfl, he⟩
    obtain ⟨s4, cl, cf, b4, hcl⟩ := those_then w w4 A0 l0.length c0 _ he
    clear he hcl
    have hseq := those_stops Fence.wide 8 trivial rfl (by omega) w.heap.size (w.heap.size + 1) (Below w4.heap.size) belowK_t A0 c0 l0 hall hc0 23 #[] (fun o => o.f0 == 5) trivial (enters_of Try.func23 (by kernel_rfl) rfl) w4 (fun _ h => h) (fun W1 ob h => h.alloc h.size ob) (fun W W1 ob hW h => h.alloc (Nat.le_trans hW.size h.size) ob) (fun W => Below.refl _ W) (fun W1 h => (h.cell (p := ⟨w.heap.size, 0, none⟩) (by show w.heap.size < _; omega)).trans cl) (fun W1 h => (h.cell (p := ⟨w.heap.size + 1, 0, none⟩) (by show w.heap.size + 1 < _; omega)).trans cf)
      (fun W1 h1 => Kd.C_below (Kd.C_below hr0 b4) h1)
      (fun o W1 h1 => pred23 Fence.wide 7 trivial rfl o W1)
    have hj := join_in 9 (by omega) w.heap.size (w.heap.size + 1) w4.heap.size l0.length hlen _ w4 (Nat.le_refl _) hseq
    gi_wp2
    refine ⟨trivial, hj.mono ?_⟩
    rintro e w5 ⟨rfl, h5⟩
    gi_wp2
    refine ⟨trivial, (callsIn_wide.2 (audit_All.calls k _ r1 r2 w5 h)).mono ?_⟩
    rintro e w6 ⟨v, rfl, hR, h6⟩
    have b5 := below_step b4 h5
    have b6 := below_step b5 h6
    gi_wp2
    go_ret2
    exact ⟨_, rfl, Kd.R_lower hR b5.size, b6⟩
  · rw [if_neg hok] at h
    cases h
end Go.Proofs.Ytfapfpkijeaapaa.P

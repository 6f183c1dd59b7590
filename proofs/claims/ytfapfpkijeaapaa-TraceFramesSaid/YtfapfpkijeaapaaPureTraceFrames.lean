/- TraceFrames: frames' bytes, in whatever pieces they stand in outputs, are these frames; without the document's answer. No condition beyond the ranges of the arguments' kinds. -/
import Derived.Test.YtfapfpkijeaapaaP0
import Derived.Test.YtfapfpkijeaapaaP11
import Derived.Test.YtfapfpkijeaapaaP17
import Derived.Test.YtfapfpkijeaapaaOpen
import Derived.Test.YtfapfpkijeaapaaTrace27
import Derived.Test.YtfapfpkijeaapaaFrSame
import Derived.Test.YtfapfpkijeaapaaRefPut
namespace Go.Proofs.Ytfapfpkijeaapaa.Pure
open Go.RowKit Go.Proofs.YtfapfpkijeaapaaW.PrintWords Go.Proofs.YtfapfpkijeaapaaW.PrintLast Go.Proofs.YtfapfpkijeaapaaW.PrintMore Go.Proofs.Ytfapfpkijeaapaa.P Go.Proofs.Ytfapfpkijeaapaa Go.Proofs.Ytfapfpkijeaapaa.Base
set_option linter.unusedVariables false
set_option linter.unusedSimpArgs false

def TraceFramesPure : Prop := ∀ (x0 : List (S38)) (x1 : Int) (x2 : Int), (x0.length ≤ maxLen ∧ ∀ y_ ∈ x0, Open.wf38 y_) → (Lit.int .u8 x1).wf = true → (Lit.int .i64 x2).wf = true → ∃ k, law27_TraceFrames.f k x0 x1 x2 = some true
theorem run_nil : run [] = ([], [], false) := run_more (by decide)
theorem frames_out {outs : List Ot} (hok : okO outs = true) (a b : Int) {tot : List UInt8} (e : catO (outs.filter fun o => o.f0 == a && o.f1 == b) = tot) (ht : tot.length ≤ 100000) {l : List Fr} (hrun : run tot = (l, [], false)) :
    Ev (fun k => trace_Frames.f k outs a b) (l, true) := by
  unfold trace_Frames.f trace_Bytes.f
  rw [if_pos hok]
  refine Ev.congr (fun k => by rw [Option.bind_some]) ?_
  have h := stream_Push_is [] false tot (by simp; omega)
  have hp : push [] false tot = (l, [], false) := hrun
  rw [hp] at h
  have e' : (⟨(catO (outs.filter fun o => o.f0 == a && o.f1 == b)).toArray⟩ : ByteArray) = B tot := congrArg B e
  refine Ev.congr (fun k => by rw [e']) ?_
  refine Ev.bind h (Ev.congr (fun k => ?_) (Ev.now _))
  rw [B_list]
  rfl
theorem cut_walk (l : List Fr) (hl : l.length ≤ 10) (conn : Int) (tot : List UInt8) (htot : tot.length ≤ 5200) (hrun : run tot = (l, [], false)) (n : Nat) (hn1 : 1 ≤ n) (hn2 : n ≤ 256) : ∀ (m : Nat) (s : List UInt8) (outs : List Ot), s.length ≤ m → outs.length + 2 * s.length ≤ 20000 → (∀ x ∈ outs, x.f2.size ≤ 5200) →
    catO (outs.filter fun o => o.f0 == 2 && o.f1 == conn) ++ s = tot → Ev (fun k => law27_TraceFrames.l1 k l conn (B s) outs (n : Int)) true := by
  intro m
  induction m with
  | zero =>
    intro s outs hm ho hx e
    have hs : s = [] := List.length_eq_zero_iff.1 (by omega)
    subst hs
    rw [List.append_nil] at e
    have hok : okO outs = true := by
      unfold okO
      simp only [Bool.and_eq_true, decide_eq_true_eq, List.all_eq_true]
      exact ⟨by omega, fun x hq => by have := hx x hq; omega⟩
    refine Ev.step (f := fun k => ((trace_Frames.f k outs 2 conn).bind fun bt374 => ((law27_awake.f k).bind fun t378 => (if t378 = true then (if bt374.2 = true then ((ref08_Frames.f k bt374.1 l).bind fun t379 => (some t379)) else (none)) else (none))))) (fun k => by simp only [law27_TraceFrames.l1]; rw [if_neg (by rw [B_size]; simp)]) ?_
    refine Ev.bind (frames_out hok 2 conn e (by omega) hrun) (Ev.bind awake27 (Ev.congr (fun k => by rw [if_pos rfl, if_pos rfl]) ?_))
    exact Ev.bind (frames_same l (by omega)) (Ev.now true)
  | succ m ih =>
    intro s outs hm ho hx e
    by_cases hs : s.length = 0
    · exact ih s outs (by omega) ho hx e
    · obtain ⟨k0, hk0⟩ : ∃ k0 : Nat, k0 = min n s.length := ⟨_, rfl⟩
      have hk1 : 1 ≤ k0 ∧ k0 ≤ s.length ∧ k0 ≤ n := by omega
      have hmn : mn (n : Int) (s.length : Int) = (k0 : Int) := by unfold mn; split <;> omega
      have es : s.take k0 ++ s.drop k0 = s := List.take_append_drop _ _
      have hB : (B s).extract 0 k0 = B (s.take k0) := by rw [B_cut, List.drop_zero]
      have hC : (B s).extract k0 s.length = B (s.drop k0) := by rw [B_cut, List.take_length]
      refine Ev.step (fun k => ?_) (ih (s.drop k0) (outs ++ [⟨2, conn, B (s.take k0)⟩, ⟨5, conn, ⟨#[120]⟩⟩]) (by rw [List.length_drop]; omega) (by rw [List.length_append, List.length_drop]; simp only [List.length_cons, List.length_nil]; omega) ?_ ?_)
      · simp only [law27_TraceFrames.l1]
        rw [B_size, if_pos (by omega), hmn, if_pos (by omega), if_pos (by omega), Option.bind_some, Int.toNat_natCast, hB, hC]
        rw [if_pos (by simp only [List.length_cons, List.length_nil]; omega)]
      · intro x hq
        rcases List.mem_append.1 hq with hq | hq
        · exact hx x hq
        · simp only [List.mem_cons, List.not_mem_nil, or_false] at hq
          have ht : s.length ≤ tot.length := by rw [← e, List.length_append]; omega
          rcases hq with rfl | rfl
          · show (B (s.take k0)).size ≤ 5200
            rw [B_size, List.length_take]
            omega
          · show (1 : Nat) ≤ 5200
            decide
      · rw [List.filter_append, catO_app, List.append_assoc]
        have e2 : catO ([⟨2, conn, B (s.take k0)⟩, ⟨5, conn, ⟨#[120]⟩⟩].filter fun o : Ot => o.f0 == 2 && o.f1 == conn) = s.take k0 := by
          simp [catO, B]
        rw [e2, es]
        exact e
theorem frames_walk (l : List Fr) (hl : l.length ≤ 10) (sz conn : Int) (hs : 0 ≤ sz ∧ sz ≤ 255) (d : Nat) : ∀ (i : Nat) (acc : List UInt8), i ≤ l.length → l.length - i = d → acc.length ≤ 260 * i →
    (∀ z, run (acc ++ z) = (l.take i ++ (run z).1, (run z).2)) → Ev (fun k => law27_TraceFrames.l0 k l sz conn (B acc) (i : Int)) true := by
  induction d with
  | zero =>
    intro i acc hi hd hlen hrun
    have hr : run acc = (l, [], false) := by
      have := hrun []
      rw [List.append_nil, run_nil, List.append_nil, show i = l.length by omega, List.take_length] at this
      exact this
    have en : wrap64 (1 + wrap64 sz) = ((sz.toNat + 1 : Nat) : Int) := by rw [w_id (x := sz) (by omega) (by omega), w_id (by omega) (by omega)]; omega
    refine Ev.step (fun k => ?_) (cut_walk l hl conn acc (by omega) hr (sz.toNat + 1) (by omega) (by omega) acc.length acc [] (Nat.le_refl _) (by simp only [List.length_nil]; omega) (fun x hx => absurd hx (by simp)) rfl)
    simp only [law27_TraceFrames.l0]
    rw [if_neg (by omega), en]
  | succ d ih =>
    intro i acc hi hd hlen hrun
    have hlt : i < l.length := by omega
    have erd : rd_T38 l (i : Int) = l[i] := by unfold rd_T38; rw [Int.toNat_natCast, List.getD_eq_getElem?_getD, List.getElem?_eq_getElem hlt]; rfl
    obtain ⟨p, hp⟩ := ofB (l[i]).f2
    by_cases hok : okF (l[i]).f0 (l[i]).f1 p
    · have hok' := hok
      obtain ⟨h1, h2, h3, h4, h5, h6⟩ := hok'
      have hpl := putF_len (l[i]).f0 (l[i]).f1 p
      refine Ev.step (f := fun k => law27_TraceFrames.l0 k l sz conn (B (acc ++ putF (l[i]).f0 (l[i]).f1 p)) ((i + 1 : Nat) : Int)) (fun k => ?_) ?_
      · simp only [law27_TraceFrames.l0]
        rw [if_pos (by omega), if_pos (by omega), erd, hp, ref08_Put_is, if_pos hok, Option.bind_some]
        rw [if_pos rfl]
        show (if (B acc).size + (B (putF (l[i]).f0 (l[i]).f1 p)).size ≤ 9223372036854775807 then _ else _) = _
        rw [B_size, B_size, if_pos (by omega), B_cat, w_id (by omega) (by omega)]
        rfl
      · refine ih (i + 1) _ (by omega) (by omega) (by rw [List.length_append]; omega) (fun z => ?_)
        rw [List.append_assoc, hrun, run_put hok, List.take_succ_eq_append_getElem hlt, ← hp]
        simp only [List.append_assoc, List.cons_append, List.nil_append]
    · refine Ev.step (f := fun k => (law27_awake.f k).bind fun t238 => (some t238)) (fun k => ?_) (Ev.bind awake27 (Ev.now _))
      simp only [law27_TraceFrames.l0]
      rw [if_pos (by omega), if_pos (by omega), erd, hp, ref08_Put_is, if_neg hok, Option.bind_some]
      rw [if_neg (by simp)]
theorem TraceFrames_pure : TraceFramesPure := by
  intro l sz conn h0 h1 h2
  suffices h : Ev (fun k => law27_TraceFrames.f k l sz conn) true by
    obtain ⟨k, hk⟩ := h
    exact ⟨k, hk k (Nat.le_refl k)⟩
  by_cases c : (l.length : Int) > 10
  · exact Ev.congr (fun k => by unfold law27_TraceFrames.f; rw [if_pos c]) (Ev.bind awake27 (Ev.now true))
  · refine Ev.congr (fun k => by unfold law27_TraceFrames.f; rw [if_neg c]; rfl) (frames_walk l (by omega) sz conn (bounds_u8 h1) l.length 0 [] (by omega) (by omega) (by simp) (fun z => by simp))
end Go.Proofs.Ytfapfpkijeaapaa.Pure

/- StreamTells: what any bytes (2000 at most) make of any stream (500 bytes at most), and whether it is one, are the document's. No condition beyond the ranges of the arguments' kinds. -/
import Derived.Test.YtbjbhhamjpbgnaaP0
import Derived.Test.YtbjbhhamjpbgnaaP4
import Derived.Test.YtbjbhhamjpbgnaaP6
import Derived.Test.YtbjbhhamjpbgnaaOpen
import Derived.Test.YtbjbhhamjpbgnaaRefStream
namespace Go.Proofs.Ytbjbhhamjpbgnaa.Pure
open Go.RowKit Go.Proofs.YtbjbhhamjpbgnaaW.PrintWords Go.Proofs.YtbjbhhamjpbgnaaW.PrintLast Go.Proofs.YtbjbhhamjpbgnaaW.PrintMore Go.Proofs.Ytbjbhhamjpbgnaa.P Go.Proofs.Ytbjbhhamjpbgnaa Go.Proofs.Ytbjbhhamjpbgnaa.Base
set_option linter.unusedVariables false
set_option linter.unusedSimpArgs false

def StreamTellsPure : Prop := ∀ (x0 : S23) (x1 : ByteArray), Open.wf23 x0 → x1.size ≤ maxLen → ∃ k, law09_StreamTells.f k x0.f0 x0.f1 x1 = some true
theorem awake09 : Ev (fun k => law09_awake.f k) true := Ev.of law09_awake.mono (k := 4) (by decide +kernel)
theorem StreamTells_pure : StreamTellsPure := by
  rintro ⟨s, bad⟩ b ⟨hs, _⟩ hb
  obtain ⟨buf, rfl⟩ := ofB s
  obtain ⟨b, rfl⟩ := ofB b
  show ∃ k, law09_StreamTells.f k (B buf) bad (B b) = some true
  apply Ev.rounds
  have hq : Ev (fun k => law09_StreamTells.j0 k (B b) true (B buf) bad) true := Ev.step (f := fun k => (law09_awake.f k).bind fun t => some t) (fun k => by simp only [law09_StreamTells.j0, if_true]) (Ev.bind awake09 (Ev.now _))
  by_cases h1 : buf.length > 500
  · refine Ev.congr (fun k => ?_) hq
    unfold law09_StreamTells.f; rw [B_size, if_pos (by omega)]
  · by_cases h2 : b.length > 2000
    · refine Ev.congr (fun k => ?_) hq
      unfold law09_StreamTells.f; rw [B_size, B_size, if_neg (by omega)]
      rw [decide_eq_true (by omega : (b.length : Int) > 2000)]
    · refine Ev.congr (f := fun k => law09_StreamTells.j0 k (B b) false (B buf) bad) (fun k => ?_) ?_
      · unfold law09_StreamTells.f; rw [B_size, B_size, if_neg (by omega)]
        rw [decide_eq_false (by omega : ¬ (b.length : Int) > 2000)]
      · refine Ev.step (f := fun k => if right buf bad = true then ((stream_Push.f k (B buf) bad (B b)).bind fun bt176 => ((ref09_Push.f k (B buf) bad (B b)).bind fun bt182 => ((law09_awake.f k).bind fun t188 => (if t188 = true then (if (bt176.1.toList == bt182.1.toList && (bt176.2.1 == bt182.2.1)) = true then ((ref08_Frames.f k bt176.2.2 bt182.2.2).bind fun t189 => (if t189 = true then ((stream_Right.f bt176.1 bt176.2.1).bind fun t190 => (if t190 = true then (some (decide ((bt176.1.size : Int) ≤ 259))) else (some false))) else (some false))) else (some false)) else (some false))))) else ((law09_awake.f k).bind fun t175 => (some t175))) (fun k => ?_) ?_
        · simp only [law09_StreamTells.j0, Bool.false_eq_true, if_false]
          rw [stream_Right_is _ _ (by omega), ref09_Right_is _ _ (by omega)]
          simp only [Option.bind_some]
          rw [if_neg (by simp)]
        · by_cases hr : right buf bad = true
          · simp only [hr, if_true]
            have hp : bad = false → Pending buf := by
              intro h; subst h
              unfold right at hr
              exact of_decide_eq_true (by simpa using hr)
            refine Ev.bind (stream_Push_is buf bad b (by omega)) ?_
            refine Ev.bind (ref09_Push_is buf bad b hp (by omega) (by omega)) ?_
            refine Ev.bind awake09 ?_
            simp only [if_true, beq_self_eq_true, Bool.and_self]
            have hends := run_ends (buf ++ b).length (buf ++ b) (Nat.le_refl _)
            have hlen : (push buf bad b).1.length ≤ buf.length + b.length := by
              unfold push
              cases bad with
              | true => simp
              | false => have := hends.2.2; rw [List.length_append] at this; simp; omega
            refine Ev.bind (frames_same _ (by omega)) ?_
            simp only [if_true]
            have hrest : right (push buf bad b).2.1 (push buf bad b).2.2 = true ∧ (push buf bad b).2.1.length ≤ 259 := by
              unfold push
              cases bad with
              | true =>
                have : buf = [] := by unfold right at hr; simpa using hr
                subst this
                simp [right]
              | false =>
                simp only [Bool.false_eq_true, if_false]
                cases hbad : (run (buf ++ b)).2.2 with
                | true => rw [hends.1 hbad]; simp [right]
                | false =>
                  have := hends.2.1 hbad
                  exact ⟨by unfold right; simp [this], pending_le this⟩
            have hl2 := hrest.2
            refine Ev.congr (f := fun _ => some true) (fun k => ?_) (Ev.now _)
            rw [stream_Right_is _ _ (by omega), hrest.1]
            simp only [Option.bind_some, if_true]
            rw [B_size, decide_eq_true (by omega)]
          · simp only [hr, if_false, Bool.false_eq_true]
            exact Ev.bind awake09 (Ev.now _)
end Go.Proofs.Ytbjbhhamjpbgnaa.Pure

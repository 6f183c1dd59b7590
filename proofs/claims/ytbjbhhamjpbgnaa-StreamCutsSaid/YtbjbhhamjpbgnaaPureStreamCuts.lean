/- StreamCuts: however bytes (2000 at most) are cut, they make the same frames, and the same stream. No condition beyond the ranges of the arguments' kinds. -/
import Derived.Test.YtbjbhhamjpbgnaaP0
import Derived.Test.YtbjbhhamjpbgnaaP4
import Derived.Test.YtbjbhhamjpbgnaaP7
import Derived.Test.YtbjbhhamjpbgnaaOpen
import Derived.Test.YtbjbhhamjpbgnaaRefStream
namespace Go.Proofs.Ytbjbhhamjpbgnaa.Pure
open Go.RowKit Go.Proofs.YtbjbhhamjpbgnaaW.PrintWords Go.Proofs.YtbjbhhamjpbgnaaW.PrintLast Go.Proofs.YtbjbhhamjpbgnaaW.PrintMore Go.Proofs.Ytbjbhhamjpbgnaa.P Go.Proofs.Ytbjbhhamjpbgnaa Go.Proofs.Ytbjbhhamjpbgnaa.Base
set_option linter.unusedVariables false
set_option linter.unusedSimpArgs false

def StreamCutsPure : Prop := ∀ (x0 : ByteArray) (x1 : List (Int)), x0.size ≤ maxLen → (x1.length ≤ maxLen ∧ ∀ y_ ∈ x1, (Lit.int .u8 y_).wf = true) → ∃ k, law09_StreamCuts.f k x0 x1 = some true
theorem awake09c : Ev (fun k => law09_awake.f k) true := Ev.of law09_awake.mono (k := 4) (by decide +kernel)
theorem push_append (buf : List UInt8) (bad : Bool) (a b : List UInt8) : push buf bad (a ++ b) = ((push buf bad a).1 ++ (push (push buf bad a).2.1 (push buf bad a).2.2 b).1, (push (push buf bad a).2.1 (push buf bad a).2.2 b).2) := by
  cases bad with
  | true => simp [push]
  | false =>
    have : push buf false (a ++ b) = run ((buf ++ a) ++ b) := by simp [push]
    rw [this, run_append]
    rfl
theorem push_len (buf : List UInt8) (bad : Bool) (b : List UInt8) : (push buf bad b).1.length + (push buf bad b).2.1.length ≤ buf.length + b.length := by
  unfold push
  cases bad with
  | true => simp
  | false => have := (run_ends (buf ++ b).length (buf ++ b) (Nat.le_refl _)).2.2; rw [List.length_append] at this; simpa using this
theorem mn_is (a b : Int) : mn a b = if b < a then b else a := rfl
theorem cuts_loop (cuts : List Int) (hc : cuts.length ≤ 100) (hr : ∀ y ∈ cuts, 0 ≤ y ∧ y ≤ 255) (whole : List Fr) (wbuf : List UInt8) (wbad : Bool) (hw : whole.length ≤ 2000) (d : Nat) : ∀ (i : Nat) (m : List Fr) (rest buf : List UInt8) (bad : Bool), i ≤ cuts.length → cuts.length - i = d →
    m.length + buf.length + rest.length ≤ 2000 → whole = m ++ (push buf bad rest).1 → wbuf = (push buf bad rest).2.1 → wbad = (push buf bad rest).2.2 →
    Ev (fun k => law09_StreamCuts.l0 k cuts whole m (B rest) (i : Int) (B wbuf) wbad (B buf) bad) true := by
  induction d with
  | zero =>
    intro i m rest buf bad hi hd hlen h1 h2 h3
    refine Ev.step (f := fun k => ((stream_Push.f k (B buf) bad (B rest)).bind fun bt209 => ((law09_awake.f k).bind fun t215 => (if t215 = true then (if ((B wbuf).toList == bt209.1.toList && (wbad == bt209.2.1)) = true then (if m.length + bt209.2.2.length < 4398046511104 then ((ref08_Frames.f k whole (m ++ bt209.2.2)).bind fun t219 => (some t219)) else (none)) else (some false)) else (some false))))) (fun k => ?_) ?_
    · simp only [law09_StreamCuts.l0]; rw [if_neg (by omega)]
    · refine Ev.bind (stream_Push_is buf bad rest (by omega)) (Ev.bind awake09c ?_)
      have hp := push_len buf bad rest
      simp only [if_true, ← h2, ← h3, ← h1, beq_self_eq_true, Bool.and_self]
      refine Ev.congr (f := fun k => (ref08_Frames.f k whole whole).bind fun t219 => (some t219)) (fun k => by rw [if_pos (by omega)]) (Ev.bind (frames_same _ (by omega)) (Ev.now _))
  | succ d ih =>
    intro i m rest buf bad hi hd hlen h1 h2 h3
    have hlt : i < cuts.length := by omega
    have hy := hr cuts[i] (List.getElem_mem hlt)
    have erd : rd cuts (i : Int) = cuts[i] := by unfold rd; rw [Int.toNat_natCast, List.getD_eq_getElem?_getD, List.getElem?_eq_getElem hlt]; rfl
    obtain ⟨n, hn, hn1⟩ : ∃ n : Nat, mn (wrap64 (rd cuts (i : Int))) (rest.length : Int) = (n : Int) ∧ n ≤ rest.length := by
      rw [erd, w_id (by omega) (by omega), mn_is]
      by_cases hh : (rest.length : Int) < cuts[i]
      · exact ⟨rest.length, by rw [if_pos hh], Nat.le_refl _⟩
      · exact ⟨(cuts[i]).toNat, by rw [if_neg hh]; omega, by omega⟩
    refine Ev.step (f := fun k => ((stream_Push.f k (B buf) bad (B (rest.take n))).bind fun bt200 => (if m.length + bt200.2.2.length < 4398046511104 then (law09_StreamCuts.l0 k cuts whole (m ++ bt200.2.2) (B (rest.drop n)) ((i + 1 : Nat) : Int) (B wbuf) wbad bt200.1 bt200.2.1) else (none)))) (fun k => ?_) ?_
    · simp only [law09_StreamCuts.l0]
      rw [if_pos (by omega), if_pos (by omega), B_size, hn, if_pos (by omega), if_pos (by omega), B_cut, B_cut, Int.toNat_natCast, List.take_length, List.drop_zero, w_id (by omega) (by omega)]
      rfl
    · have hp := push_len buf bad (rest.take n)
      have hs := push_append buf bad (rest.take n) (rest.drop n)
      rw [List.take_append_drop] at hs
      have hlt2 : (rest.take n).length + (rest.drop n).length = rest.length := by rw [List.length_take, List.length_drop]; omega
      refine Ev.bind (stream_Push_is buf bad (rest.take n) (by omega)) ?_
      refine Ev.congr (f := fun k => law09_StreamCuts.l0 k cuts whole (m ++ (push buf bad (rest.take n)).1) (B (rest.drop n)) ((i + 1 : Nat) : Int) (B wbuf) wbad (B (push buf bad (rest.take n)).2.1) (push buf bad (rest.take n)).2.2) (fun k => if_pos (show m.length + (push buf bad (rest.take n)).1.length < 4398046511104 by omega)) ?_
      refine ih (i + 1) _ _ _ _ (by omega) (by omega) (by rw [List.length_append]; omega) ?_ ?_ ?_
      · rw [h1, hs]; simp
      · rw [h2, hs]
      · rw [h3, hs]
theorem StreamCuts_pure : StreamCutsPure := by
  rintro s cuts hs ⟨hc, hr⟩
  obtain ⟨b, rfl⟩ := ofB s
  replace hr : ∀ y ∈ cuts, 0 ≤ y ∧ y ≤ 255 := fun y hy => bounds_u8 (hr y hy)
  apply Ev.rounds
  have hq : Ev (fun k => law09_StreamCuts.j0 k (B b) cuts true) true := Ev.step (f := fun k => (law09_awake.f k).bind fun t => some t) (fun k => by simp only [law09_StreamCuts.j0, if_true]) (Ev.bind awake09c (Ev.now _))
  by_cases h1 : b.length > 2000
  · refine Ev.congr (fun k => ?_) hq
    unfold law09_StreamCuts.f; rw [B_size, if_pos (by omega)]
  · by_cases h2 : cuts.length > 100
    · refine Ev.congr (fun k => ?_) hq
      unfold law09_StreamCuts.f; rw [B_size, if_neg (by omega), decide_eq_true (by omega : (cuts.length : Int) > 100)]
    · refine Ev.congr (f := fun k => law09_StreamCuts.j0 k (B b) cuts false) (fun k => ?_) ?_
      · unfold law09_StreamCuts.f; rw [B_size, if_neg (by omega), decide_eq_false (by omega : ¬ (cuts.length : Int) > 100)]
      · refine Ev.step (f := fun k => (stream_Push.f k (B []) false (B b)).bind fun bt192 => (law09_StreamCuts.l0 k cuts bt192.2.2 [] (B b) 0 bt192.1 bt192.2.1 (B []) false)) (fun k => by simp only [law09_StreamCuts.j0, Bool.false_eq_true, if_false]; rfl) ?_
        refine Ev.bind (stream_Push_is [] false b (by simp; omega)) ?_
        have hp := push_len [] false b
        have := cuts_loop cuts (by omega) hr (push [] false b).1 (push [] false b).2.1 (push [] false b).2.2 (by simp at hp; omega) cuts.length 0 [] b [] false (by omega) (by omega) (by simp; omega) (by simp) rfl rfl
        exact this
end Go.Proofs.Ytbjbhhamjpbgnaa.Pure

/- StreamFrames: frames' bytes (of 20 frames at most), and the beginning of one more, make these frames, and leave that. No condition beyond the ranges of the arguments' kinds. -/
import Derived.Test.YtbjbhhamjpbgnaaP0
import Derived.Test.YtbjbhhamjpbgnaaP4
import Derived.Test.YtbjbhhamjpbgnaaP9
import Derived.Test.YtbjbhhamjpbgnaaOpen
import Derived.Test.YtbjbhhamjpbgnaaRefStream
import Derived.Test.YtbjbhhamjpbgnaaRefPut
namespace Go.Proofs.Ytbjbhhamjpbgnaa.Pure
open Go.RowKit Go.Proofs.YtbjbhhamjpbgnaaW.PrintWords Go.Proofs.YtbjbhhamjpbgnaaW.PrintLast Go.Proofs.YtbjbhhamjpbgnaaW.PrintMore Go.Proofs.Ytbjbhhamjpbgnaa.P Go.Proofs.Ytbjbhhamjpbgnaa Go.Proofs.Ytbjbhhamjpbgnaa.Base
set_option linter.unusedVariables false
set_option linter.unusedSimpArgs false

def StreamFramesPure : Prop := ∀ (x0 : List (S34)) (x1 : S34) (x2 : Int), (x0.length ≤ maxLen ∧ ∀ y_ ∈ x0, Open.wf34 y_) → Open.wf34 x1 → (Lit.int .u16 x2).wf = true → ∃ k, law09_StreamFrames.f k x0 x1.f0 x1.f1 x1.f2 x2 = some true
theorem awake09f : Ev (fun k => law09_awake.f k) true := Ev.of law09_awake.mono (k := 4) (by decide +kernel)
theorem bounds_u16' {n : Int} (h : (Lit.int .u16 n).wf = true) : 0 ≤ n ∧ n ≤ 65535 := by
  simpa [Lit.wf, IntKind.min, IntKind.max, IntKind.bits, IntKind.signed] using h
theorem frames_walk (l : List Fr) (hl : l.length ≤ 20) (li lu : Int) (lp : List UInt8) (cut : Int) (hc0 : 0 ≤ cut) (hc1 : cut ≤ 65535) (d : Nat) : ∀ (i : Nat) (acc : List UInt8), i ≤ l.length → l.length - i = d → acc.length ≤ 260 * i →
    (∀ z, run (acc ++ z) = (l.take i ++ (run z).1, (run z).2)) → Ev (fun k => law09_StreamFrames.l0 k l cut (B acc) (i : Int) li lu (B lp)) true := by
  induction d with
  | zero =>
    intro i acc hi hd hlen hrun
    have hq : Ev (fun k => (law09_awake.f k).bind fun t249 => (some t249)) true := Ev.bind awake09f (Ev.now _)
    by_cases hok : okF li lu lp
    · have hok' := hok
      obtain ⟨h1, h2, h3, h4, h5, h6⟩ := hok'
      have hpl := putF_len li lu lp
      obtain ⟨c, hc⟩ : ∃ c : Nat, c = cut.toNat % (putF li lu lp).length := ⟨_, rfl⟩
      have hclt : c < (putF li lu lp).length := by rw [hc]; exact Nat.mod_lt _ (by omega)
      have hpend := put_part hok hclt
      have hcut : Int.tmod (wrap64 cut) ((putF li lu lp).length : Int) = (c : Int) := by
        rw [w_id (by omega) (by omega), Int.tmod_eq_emod_of_nonneg hc0, hc, Int.natCast_emod]
        congr 1
        omega
      refine Ev.step (f := fun k => ((stream_Push.f k (B []) false (B (acc ++ (putF li lu lp).take c))).bind fun bt241 => ((law09_awake.f k).bind fun t247 => (if t247 = true then (if (bt241.1.toList == ((B ((putF li lu lp).take c)).toList) && (!bt241.2.1)) = true then ((ref08_Frames.f k l bt241.2.2).bind fun t248 => (some t248)) else (some false)) else (some false))))) (fun k => ?_) ?_
      · simp only [law09_StreamFrames.l0]
        rw [if_neg (by omega), ref08_Put_is, if_pos hok, Option.bind_some]
        rw [if_pos rfl]
        show (if ((B (putF li lu lp)).size : Int) = 0 then _ else _) = _
        rw [B_size, if_neg (by omega), hcut, if_pos (by omega), if_pos (by omega), B_cut, Int.toNat_natCast, List.drop_zero, B_size, B_cat, if_pos (by omega)]
        rfl
      · refine Ev.bind (stream_Push_is [] false _ (by rw [List.length_append, List.length_take]; simp; omega)) (Ev.bind awake09f ?_)
        have hp : push [] false (acc ++ (putF li lu lp).take c) = (l, (putF li lu lp).take c, false) := by
          show run (acc ++ (putF li lu lp).take c) = _
          rw [hrun, run_pending hpend, show i = l.length by omega, List.take_length]
          simp
        simp only [hp, if_true, beq_self_eq_true, Bool.not_false, Bool.and_self]
        exact Ev.bind (frames_same _ (by omega)) (Ev.now _)
    · refine Ev.step (fun k => ?_) hq
      simp only [law09_StreamFrames.l0]
      rw [if_neg (by omega), ref08_Put_is, if_neg hok, Option.bind_some]
      rw [if_neg (by simp)]
  | succ d ih =>
    intro i acc hi hd hlen hrun
    have hlt : i < l.length := by omega
    have erd : rd_T34 l (i : Int) = l[i] := by unfold rd_T34; rw [Int.toNat_natCast, List.getD_eq_getElem?_getD, List.getElem?_eq_getElem hlt]; rfl
    obtain ⟨p, hp⟩ := ofB (l[i]).f2
    by_cases hok : okF (l[i]).f0 (l[i]).f1 p
    · have hok' := hok
      obtain ⟨h1, h2, h3, h4, h5, h6⟩ := hok'
      have hpl := putF_len (l[i]).f0 (l[i]).f1 p
      refine Ev.step (f := fun k => law09_StreamFrames.l0 k l cut (B (acc ++ putF (l[i]).f0 (l[i]).f1 p)) ((i + 1 : Nat) : Int) li lu (B lp)) (fun k => ?_) ?_
      · simp only [law09_StreamFrames.l0]
        rw [if_pos (by omega), if_pos (by omega), erd, hp, ref08_Put_is, if_pos hok, Option.bind_some]
        rw [if_pos rfl]
        show (if (B acc).size + (B (putF (l[i]).f0 (l[i]).f1 p)).size ≤ 9223372036854775807 then _ else _) = _
        rw [B_size, B_size, if_pos (by omega), B_cat, w_id (by omega) (by omega)]
        rfl
      · refine ih (i + 1) _ (by omega) (by omega) (by rw [List.length_append]; omega) (fun z => ?_)
        rw [List.append_assoc, hrun, run_put hok, List.take_succ_eq_append_getElem hlt, ← hp]
        simp only [List.append_assoc, List.cons_append, List.nil_append]
    · refine Ev.step (f := fun k => (law09_awake.f k).bind fun t238 => (some t238)) (fun k => ?_) (Ev.bind awake09f (Ev.now _))
      simp only [law09_StreamFrames.l0]
      rw [if_pos (by omega), if_pos (by omega), erd, hp, ref08_Put_is, if_neg hok, Option.bind_some]
      rw [if_neg (by simp)]
theorem StreamFrames_pure : StreamFramesPure := by
  rintro l ⟨li, lu, lp⟩ cut ⟨hl, _⟩ _ hc
  obtain ⟨hc0, hc1⟩ := bounds_u16' hc
  obtain ⟨lp, rfl⟩ := ofB lp
  apply Ev.rounds
  by_cases h1 : l.length > 20
  · refine Ev.congr (f := fun k => (law09_awake.f k).bind fun t => some t) (fun k => ?_) (Ev.bind awake09f (Ev.now _))
    unfold law09_StreamFrames.f; rw [if_pos (by omega)]
  · refine Ev.congr (f := fun k => law09_StreamFrames.l0 k l cut (B []) ((0 : Nat) : Int) li lu (B lp)) (fun k => ?_) ?_
    · unfold law09_StreamFrames.f; rw [if_neg (by omega)]; rfl
    · exact frames_walk l (by omega) li lu lp cut hc0 hc1 l.length 0 [] (by omega) (by omega) (by simp) (fun z => by simp)
end Go.Proofs.Ytbjbhhamjpbgnaa.Pure

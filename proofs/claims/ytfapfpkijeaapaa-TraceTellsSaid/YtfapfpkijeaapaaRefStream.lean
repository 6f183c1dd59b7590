/- The reference's way, byte by byte; which streams are right; lists of frames compared. -/
import Derived.Test.YtfapfpkijeaapaaP0
import Derived.Test.YtfapfpkijeaapaaP11
import Derived.Test.YtfapfpkijeaapaaP12
import Derived.Test.YtfapfpkijeaapaaP13
import Derived.Test.YtfapfpkijeaapaaStream
import Derived.Test.YtfapfpkijeaapaaMbapR
import Derived.Test.YtfapfpkijeaapaaFrSame
namespace Go.Proofs.Ytfapfpkijeaapaa.Base
open Go.RowKit Go.Proofs.YtfapfpkijeaapaaW.PrintWords Go.Proofs.YtfapfpkijeaapaaW.PrintLast Go.Proofs.YtfapfpkijeaapaaW.PrintMore Go.Proofs.Ytfapfpkijeaapaa.P
set_option linter.unusedVariables false
set_option linter.unusedSimpArgs false

theorem frame_all (l : List UInt8) : l.take l.length = l := List.take_length
theorem ref_loop (b : List UInt8) (hbl : b.length < 2147483648) (d : Nat) : ∀ (buf : List UInt8) (bad : Bool) (acc : List Fr) (i : Nat), i ≤ b.length → b.length - i = d → (bad = false → Pending buf) → acc.length + buf.length + d < 4398046511104 →
    Ev (fun k => ref09_Push.l0 k (B b) acc (i : Int) (B buf) bad) (B (push buf bad (b.drop i)).2.1, (push buf bad (b.drop i)).2.2, acc ++ (push buf bad (b.drop i)).1) := by
  induction d with
  | zero =>
    intro buf bad acc i hi hd hp hlen
    refine Ev.step (f := fun k => ref09_Push.j1 k (B b) acc (i : Int) false (B buf) bad) (fun k => ?_) ?_
    · simp only [ref09_Push.l0]; rw [B_size, if_neg (by omega)]
    · refine Ev.step (f := fun _ => some (B buf, bad, acc)) (fun k => by simp [ref09_Push.j1]) ?_
      have hd0 : b.drop i = [] := List.drop_eq_nil_of_le (by omega)
      rw [hd0]
      cases bad with
      | true => simpa [push] using Ev.now _
      | false => simp only [push, List.append_nil, Bool.false_eq_true, if_false]; rw [run_pending (hp rfl)]; simpa using Ev.now _
  | succ d ih =>
    intro buf bad acc i hi hd hp hlen
    have hlt : i < b.length := by omega
    cases bad with
    | true =>
      refine Ev.step (f := fun k => ref09_Push.j1 k (B b) acc (i : Int) false (B buf) true) (fun k => ?_) ?_
      · simp only [ref09_Push.l0]; rw [B_size, if_pos (by omega)]; rfl
      · exact Ev.step (f := fun _ => some (B buf, true, acc)) (fun k => by simp [ref09_Push.j1]) (by simpa [push] using Ev.now _)
    | false =>
      have hp := hp rfl
      refine Ev.step (f := fun k => ref09_Push.j1 k (B b) acc (i : Int) true (B buf) false) (fun k => ?_) ?_
      · simp only [ref09_Push.l0]; rw [B_size, if_pos (by omega)]; rfl
      · have ew : wrap64 ((i : Int) + 1) = ((i + 1 : Nat) : Int) := by rw [w_id (by omega) (by omega)]; omega
        have ecut : (B b).extract i (i + 1) = B [b[i]] := by
          rw [B_cut]
          congr 1
          rw [List.take_succ_eq_append_getElem hlt, List.drop_append_of_le_length (by rw [List.length_take]; omega)]
          simp
        have edrop : b.drop i = b[i] :: b.drop (i + 1) := List.drop_eq_getElem_cons hlt
        generalize b[i] = c at ecut edrop
        have hcat : buf ++ c :: b.drop (i + 1) = (buf ++ [c]) ++ b.drop (i + 1) := by simp
        have hl1 : (buf ++ [c]).length = buf.length + 1 := by simp
        have hpush : push buf false (b.drop i) = run ((buf ++ [c]) ++ b.drop (i + 1)) := by rw [edrop, ← hcat]; rfl
        rw [hpush]
        -- what a round does before the head is looked at
        have hround : ∀ k, ref09_Push.j1 (k + 1) (B b) acc (i : Int) true (B buf) false = ((ref08_Need.f (B (buf ++ [c]))).bind fun bt158 => (if bt158.2 = 0 then (if bt158.1 > 0 then (if ((buf ++ [c]).length : Int) = bt158.1 then ((ref08_Get.f (B (buf ++ [c]))).bind fun bt160 => (if acc.length < 4398046511104 then (ref09_Push.l0 k (B b) (acc ++ [(⟨bt160.1, bt160.2.1, bt160.2.2.1⟩ : Fr)]) ((i + 1 : Nat) : Int) (B []) false) else (none))) else (ref09_Push.l0 k (B b) acc ((i + 1 : Nat) : Int) (B (buf ++ [c])) false)) else (ref09_Push.l0 k (B b) acc ((i + 1 : Nat) : Int) (B (buf ++ [c])) false)) else (ref09_Push.l0 k (B b) acc ((i + 1 : Nat) : Int) (B []) true))) := by
          intro k
          simp only [ref09_Push.j1, if_true]
          rw [ew, B_size, if_pos (by omega), if_pos (by omega), if_pos (by omega)]
          simp only [Int.toNat_natCast]
          rw [ecut, B_cat, B_size, if_pos (by omega)]
          have e3 : ((buf.length : Int) + ((i + 1 - i : Nat) : Int)) = ((buf ++ [c]).length : Int) := by rw [hl1]; omega
          rw [e3]
          rfl
        by_cases h6 : (buf ++ [c]).length < 6
        · refine Ev.step (f := fun k => ref09_Push.l0 k (B b) acc ((i + 1 : Nat) : Int) (B (buf ++ [c])) false) (fun k => ?_) ?_
          · rw [hround, ref08_Need_is _ (by omega), need_more h6]
            rfl
          · have := ih (buf ++ [c]) false acc (i + 1) (by omega) (by omega) (fun _ => Or.inl h6) (by omega)
            simpa [push] using this
        · by_cases hb : badHead (buf ++ [c])
          · refine Ev.step (f := fun k => ref09_Push.l0 k (B b) acc ((i + 1 : Nat) : Int) (B []) true) (fun k => ?_) ?_
            · rw [hround, ref08_Need_is _ (by omega), need_bad h6 hb]
              rfl
            · have := ih [] true acc (i + 1) (by omega) (by omega) (fun h => by simp at h) (by simp; omega)
              rw [run_bad (by rw [List.length_append]; omega) ((bad_cat h6).2 hb)]
              simpa [push] using this
          · have hn := nb hb
            have hg : g2 ((buf ++ [c]) ++ b.drop (i + 1)) 4 = g2 (buf ++ [c]) 4 := g2_cat (by omega)
            have hle : (buf ++ [c]).length ≤ g2 (buf ++ [c]) 4 + 6 := by
              rcases hp with hp | ⟨hp1, hp2⟩
              · omega
              · by_cases h5 : buf.length < 6
                · omega
                · rw [g2_cat (by omega)]; omega
            by_cases hw : (buf ++ [c]).length = g2 (buf ++ [c]) 4 + 6
            · refine Ev.step (f := fun k => ref09_Push.l0 k (B b) (acc ++ [frameOf (buf ++ [c])]) ((i + 1 : Nat) : Int) (B []) false) (fun k => ?_) ?_
              · rw [hround, ref08_Need_is _ (by omega), need_is h6 hb]
                simp only [Option.bind_some, if_true]
                rw [if_pos (by omega), if_pos (by omega), ref08_Get_is _ (by omega), get_whole h6 hb hw]
                simp only [Option.bind_some]
                rw [if_pos (by omega)]
              · have := ih [] false (acc ++ [frameOf (buf ++ [c])]) (i + 1) (by omega) (by omega) (fun _ => Or.inl (by show 0 < 6; omega)) (by rw [List.length_append, List.length_singleton]; simp; omega)
                rw [run_step (by rw [List.length_append]; omega) (fun hh => hb ((bad_cat h6).1 hh)) (by rw [List.length_append, hg]; omega), hg]
                have e1 : ((buf ++ [c]) ++ b.drop (i + 1)).take (g2 (buf ++ [c]) 4 + 6) = buf ++ [c] := by rw [← hw]; exact List.take_left
                have e2 : ((buf ++ [c]) ++ b.drop (i + 1)).drop (g2 (buf ++ [c]) 4 + 6) = b.drop (i + 1) := by rw [← hw]; exact List.drop_left
                rw [e1, e2]
                simpa [push] using this
            · have hpend : Pending (buf ++ [c]) := Or.inr ⟨hb, by omega⟩
              refine Ev.step (f := fun k => ref09_Push.l0 k (B b) acc ((i + 1 : Nat) : Int) (B (buf ++ [c])) false) (fun k => ?_) ?_
              · rw [hround, ref08_Need_is _ (by omega), need_is h6 hb]
                simp only [Option.bind_some, if_true]
                rw [if_pos (by omega), if_neg (by omega)]
              · have := ih (buf ++ [c]) false acc (i + 1) (by omega) (by omega) (fun _ => hpend) (by omega)
                simpa [push] using this
theorem ref09_Push_is (buf : List UInt8) (bad : Bool) (b : List UInt8) (hp : bad = false → Pending buf) (h1 : buf.length < 2147483648) (h2 : b.length < 2147483648) :
    Ev (fun k => ref09_Push.f k (B buf) bad (B b)) (B (push buf bad b).2.1, (push buf bad b).2.2, (push buf bad b).1) := by
  have := ref_loop b h2 b.length buf bad [] 0 (by omega) (by omega) hp (by simp; omega)
  unfold ref09_Push.f
  simpa using this
end Go.Proofs.Ytfapfpkijeaapaa.Base

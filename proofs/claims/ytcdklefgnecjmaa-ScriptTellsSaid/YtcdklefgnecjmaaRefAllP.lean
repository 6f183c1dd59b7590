/- What the reference's PutAll computes. -/
import Derived.Test.YtcdklefgnecjmaaP0
import Derived.Test.YtcdklefgnecjmaaP4
import Derived.Test.YtcdklefgnecjmaaTwinPut
import Derived.Test.YtcdklefgnecjmaaTwinGetAll
import Derived.Test.YtcdklefgnecjmaaRefTwo
namespace Go.Proofs.Ytcdklefgnecjmaa.Base
open Go.RowKit Go.Proofs.YtcdklefgnecjmaaW.PrintWords Go.Proofs.YtcdklefgnecjmaaW.PrintLast Go.Proofs.YtcdklefgnecjmaaW.PrintMore Go.Proofs.Ytcdklefgnecjmaa.P
set_option linter.unusedVariables false
set_option linter.unusedSimpArgs false

theorem refPut_is (a : Int) : ref01_Put.f a = some (if okN a then (B (twoB a.toNat), true) else (B [], false)) := ref01_Put_is a
theorem refPutAll_loop (l : List Int) (hl : l.length ≤ 1099511627776) (d : Nat) : ∀ (i : Nat) (m : List UInt8), i ≤ l.length → l.length - i = d → m.length = 2 * i →
    Ev (fun k => ref01_PutAll.l0 k l (B m) (i : Int)) (if allN (l.drop i) then (B (m ++ putAll (l.drop i)), true) else (B [], false)) := by
  induction d with
  | zero =>
    intro i m hi hd hm
    refine Ev.step (f := fun _ => some (B m, true)) (fun k => ?_) ?_
    · simp only [ref01_PutAll.l0]; rw [if_neg (by omega)]
    · rw [List.drop_eq_nil_of_le (by omega), if_pos (show allN [] from fun a ha => by simp at ha)]
      simpa [putAll] using Ev.now _
  | succ d ih =>
    intro i m hi hd hm
    have hlt : i < l.length := by omega
    have edrop : l.drop i = l[i] :: l.drop (i + 1) := List.drop_eq_getElem_cons hlt
    rw [edrop]
    by_cases hok : okN l[i]
    · refine Ev.step (f := fun k => ref01_PutAll.l0 k l (B (m ++ twoB (l[i]).toNat)) ((i + 1 : Nat) : Int)) (fun k => ?_) ?_
      · simp only [ref01_PutAll.l0]
        rw [if_pos (by omega), if_pos (by omega), rd_get l i hlt, refPut_is, if_pos hok, Option.bind_some, if_pos rfl]
        rw [B_size, B_size, if_pos (by show m.length + 2 ≤ _; omega), B_cat, w_id (by omega) (by omega)]
        rfl
      · have := ih (i + 1) (m ++ twoB (l[i]).toNat) (by omega) (by omega) (by rw [List.length_append, hm]; show 2 * i + 2 = _; omega)
        have e : allN (l[i] :: l.drop (i + 1)) ↔ allN (l.drop (i + 1)) := ⟨fun h a ha => h a (List.mem_cons_of_mem _ ha), fun h a ha => by rcases List.mem_cons.1 ha with rfl | ha; exact hok; exact h a ha⟩
        simp only [e, putAll]
        rw [List.append_assoc] at this
        exact this
    · refine Ev.step (f := fun _ => some (B [], false)) (fun k => ?_) ?_
      · simp only [ref01_PutAll.l0]
        rw [if_pos (by omega), if_pos (by omega), rd_get l i hlt, refPut_is, if_neg hok, Option.bind_some, if_neg (by simp)]
        rfl
      · rw [if_neg (fun h => hok (h _ List.mem_cons_self))]
        exact Ev.now _
theorem ref01_PutAll_is (l : List Int) (hl : l.length ≤ 1099511627776) : Ev (fun k => ref01_PutAll.f k l) (if allN l then (B (putAll l), true) else (B [], false)) := by
  have := refPutAll_loop l hl l.length 0 [] (by omega) (by omega) rfl
  simp only [List.drop_zero, List.nil_append] at this
  exact Ev.congr (fun k => rfl) this
end Go.Proofs.Ytcdklefgnecjmaa.Base

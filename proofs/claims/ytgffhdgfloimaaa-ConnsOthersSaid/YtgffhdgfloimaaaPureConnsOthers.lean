/- ConnsOthers: what is done with one connection leaves all others as they were; without the document's answer. No condition beyond the ranges of the arguments' kinds. -/
import Derived.Test.YtgffhdgfloimaaaP0
import Derived.Test.YtgffhdgfloimaaaP6
import Derived.Test.YtgffhdgfloimaaaP8
import Derived.Test.YtgffhdgfloimaaaOpen
import Derived.Test.YtgffhdgfloimaaaConns
namespace Go.Proofs.Ytgffhdgfloimaaa.Pure
open Go.RowKit Go.Proofs.YtgffhdgfloimaaaW.PrintWords Go.Proofs.YtgffhdgfloimaaaW.PrintLast Go.Proofs.YtgffhdgfloimaaaW.PrintMore Go.Proofs.Ytgffhdgfloimaaa.P Go.Proofs.Ytgffhdgfloimaaa Go.Proofs.Ytgffhdgfloimaaa.Base
set_option linter.unusedVariables false
set_option linter.unusedSimpArgs false

def ConnsOthersPure : Prop := ∀ (x0 : List (S34)) (x1 : Int) (x2 : ByteArray), (x0.length ≤ maxLen ∧ ∀ y_ ∈ x0, Open.wf34 y_) → (Lit.int .i64 x1).wf = true → x2.size ≤ maxLen → ∃ k, law22_ConnsOthers.f k x0 x1 x2 = some true
def short (c : Cn) : Prop := c.f3.f0.size ≤ 500 ∧ c.f2 < 1099511627776
theorem few_loop (l : List Cn) (hl : l.length ≤ 40) (d : Nat) : ∀ i : Nat, i + d = l.length → Ev (fun k => law22_few.l0 k l (i : Int)) false ∨ (Ev (fun k => law22_few.l0 k l (i : Int)) true ∧ ∀ c ∈ l.drop i, short c) := by
  induction d with
  | zero =>
    intro i hi
    refine .inr ⟨Ev.step (fun k => by simp only [law22_few.l0]; rw [if_neg (by omega)]) (Ev.now true), ?_⟩
    rw [List.drop_eq_nil_of_le (by omega)]
    exact fun c hc => absurd hc (by simp)
  | succ d ih =>
    intro i hi
    have h : i < l.length := by omega
    have ew : wrap64 ((i : Int) + 1) = ((i + 1 : Nat) : Int) := by rw [w_id (by omega) (by omega)]; rfl
    have e : ∀ k, law22_few.l0 (k + 1) l (i : Int) = (if ((l[i].f3.f0).size : Int) > 500 then (some false) else (if (l[i].f2) ≥ 1099511627776 then (some false) else (law22_few.l0 k l ((i + 1 : Nat) : Int)))) := by
      intro k
      simp only [law22_few.l0]
      rw [if_pos (by omega), if_pos (by omega), rdC l i h, ew]
    by_cases c1 : ((l[i].f3.f0).size : Int) > 500
    · exact .inl (Ev.step (fun k => by rw [e, if_pos c1]) (Ev.now false))
    · by_cases c2 : l[i].f2 ≥ 1099511627776
      · exact .inl (Ev.step (fun k => by rw [e, if_neg c1, if_pos c2]) (Ev.now false))
      · rcases ih (i + 1) (by omega) with ih | ⟨ih, hr⟩
        · exact .inl (Ev.step (fun k => by rw [e, if_neg c1, if_neg c2]) ih)
        · refine .inr ⟨Ev.step (fun k => by rw [e, if_neg c1, if_neg c2]) ih, fun c hc => ?_⟩
          rw [List.drop_eq_getElem_cons h] at hc
          rcases List.mem_cons.1 hc with rfl | hc
          · exact ⟨by omega, by omega⟩
          · exact hr c hc
theorem few_is (l : List Cn) : Ev (fun k => law22_few.f k l) false ∨ (Ev (fun k => law22_few.f k l) true ∧ l.length ≤ 40 ∧ ∀ c ∈ l, short c) := by
  by_cases c : (l.length : Int) > 40
  · exact .inl (Ev.congr (fun k => by unfold law22_few.f; rw [if_pos c]) (Ev.now false))
  · rcases few_loop l (by omega) l.length 0 (by omega) with h | ⟨h, hs⟩
    · exact .inl (Ev.congr (fun k => by unfold law22_few.f; rw [if_neg c]; rfl) h)
    · exact .inr ⟨Ev.congr (fun k => by unfold law22_few.f; rw [if_neg c]; rfl) h, by omega, by rwa [List.drop_zero] at hs⟩
theorem no_other (a b : Cn) (h : a = b) : (!((a.f0) == (b.f0)) || (!((a.f1) == (b.f1)) || (!((a.f2) == (b.f2)) || ((!(((a.f3.f0).toList) == ((b.f3.f0).toList)) || (!((a.f3.f1) == (b.f3.f1)))))))) = false := by
  subst h
  simp
theorem same_set (l : List Cn) (j : Nat) (c : Cn) (i : Nat) (h : i ≠ j) : rd_T34 (l.set j c) (i : Int) = rd_T34 l (i : Int) := by
  unfold rd_T34
  rw [Int.toNat_natCast, List.getD_eq_getElem?_getD, List.getD_eq_getElem?_getD, List.getElem?_set, if_neg (Ne.symm h)]
theorem pus_same (l : List Cn) (k : Int) (b : List UInt8) : (pusS l k b).1.length = l.length ∧ ∀ i : Nat, (i : Int) ≠ k → rd_T34 (pusS l k b).1 (i : Int) = rd_T34 l (i : Int) := by
  unfold pusS
  cases ho : opeS l k with
  | false => rw [if_pos rfl]; exact ⟨rfl, fun i _ => rfl⟩
  | true =>
    have h0 : 0 ≤ k := by
      unfold opeS at ho
      simp only [Bool.and_eq_true, decide_eq_true_eq] at ho
      exact ho.1
    rw [if_neg (by simp)]
    refine ⟨by simp only; rw [List.length_set], fun i hi => ?_⟩
    simp only
    exact same_set l _ _ i (by omega)
theorem clo_same (l : List Cn) (k : Int) : (cloS l k).length = l.length ∧ ∀ i : Nat, (i : Int) ≠ k → rd_T34 (cloS l k) (i : Int) = rd_T34 l (i : Int) := by
  unfold cloS
  by_cases c : k < 0 ∨ k ≥ (l.length : Int)
  · rw [if_pos c]; exact ⟨rfl, fun i _ => rfl⟩
  · rw [if_neg c]
    exact ⟨by rw [List.length_set], fun i hi => same_set l _ _ i (by omega)⟩
theorem acc_same (l : List Cn) (x : Int) : (accS l x).1.length = l.length ∧ ∀ i : Nat, ((accS l x).2.2 = true → (i : Int) ≠ (accS l x).2.1) → rd_T34 (accS l x).1 (i : Int) = rd_T34 l (i : Int) := by
  unfold accS
  cases hf : free? l with
  | none => exact ⟨rfl, fun i _ => rfl⟩
  | some q =>
    refine ⟨by simp only; rw [List.length_set], fun i hi => ?_⟩
    simp only at hi ⊢
    exact same_set l q _ i (by have := hi trivial; omega)
theorem getD_mem {l : List Cn} {i : Nat} (h : i < l.length) : l.getD i z34 ∈ l := by
  rw [List.getD_eq_getElem?_getD, List.getElem?_eq_getElem h]
  exact List.getElem_mem h
/-- What a place is. -/
def Gd (c : Cn) : Prop := okC c = true ∧ c.f3.f0.size ≤ lim
theorem pus_ok (l : List Cn) (k : Int) (b : List UInt8) (hb : b.length ≤ 1000) (hs : ∀ c ∈ l, short c) (ho : ∀ c ∈ l, okC c = true) : ∀ c ∈ (pusS l k b).1, Gd c := by
  have hl : ∀ c ∈ l, Gd c := fun c hc => ⟨ho c hc, by have := (hs c hc).1; unfold lim; omega⟩
  unfold pusS
  cases hop : opeS l k with
  | false => rw [if_pos rfl]; exact hl
  | true =>
    have h0 : 0 ≤ k ∧ k < (l.length : Int) ∧ (l.getD k.toNat z34).f0 = true := by
      unfold opeS at hop
      simp only [Bool.and_eq_true, decide_eq_true_eq] at hop
      exact hop
    rw [if_neg (by simp)]
    simp only
    intro c hc
    rcases List.mem_or_eq_of_mem_set hc with hc | rfl
    · exact hl c hc
    · have hm := getD_mem (l := l) (i := k.toNat) (by omega)
      generalize l.getD k.toNat z34 = q at hm h0
      have g := okC_of.1 (ho q hm)
      have gs := (hs q hm).1
      obtain ⟨s, e⟩ := ofB q.f3.f0
      rw [e, B_list] at g
      rw [e, B_size] at gs
      unfold Gd
      rw [e, B_list, okC_of]
      simp only
      rw [B_list, B_size]
      have hr : right (push s q.f3.f1 b).2.1 (push s q.f3.f1 b).2.2 = true ∧ (push s q.f3.f1 b).2.1.length ≤ lim := by
        unfold push
        cases hbad : q.f3.f1 with
        | true =>
          rw [if_pos rfl]
          have := g.2.2
          rw [hbad] at this
          exact ⟨this, by simp only; unfold lim; omega⟩
        | false =>
          rw [if_neg (by simp)]
          obtain ⟨h1, h2, h3⟩ := run_ends (s ++ b).length (s ++ b) (Nat.le_refl _)
          rw [List.length_append] at h3
          refine ⟨?_, by unfold lim; omega⟩
          unfold right
          cases hx : (run (s ++ b)).2.2 with
          | true => rw [if_pos rfl, h1 hx]; rfl
          | false => rw [if_neg (by simp)]; exact decide_eq_true (h2 hx)
      exact ⟨⟨g.1, .inl h0.2.2, hr.1⟩, hr.2⟩
theorem clo_ok (l : List Cn) (k : Int) (hs : ∀ c ∈ l, short c) (ho : ∀ c ∈ l, okC c = true) : ∀ c ∈ cloS l k, Gd c := by
  have hl : ∀ c ∈ l, Gd c := fun c hc => ⟨ho c hc, by have := (hs c hc).1; unfold lim; omega⟩
  unfold cloS
  by_cases c : k < 0 ∨ k ≥ (l.length : Int)
  · rw [if_pos c]; exact hl
  · rw [if_neg c]
    intro d hd
    rcases List.mem_or_eq_of_mem_set hd with hd | rfl
    · exact hl d hd
    · have hm := getD_mem (l := l) (i := k.toNat) (by omega)
      have g := okC_of.1 (ho _ hm)
      exact ⟨okC_of.2 ⟨g.1, .inr ⟨rfl, B_list [], rfl⟩, by show right (B []).toList false = true; rw [B_list]; decide⟩, Nat.zero_le _⟩
theorem acc_ok (l : List Cn) (x : Int) (hs : ∀ c ∈ l, short c) (ho : ∀ c ∈ l, okC c = true) : ∀ c ∈ (accS l x).1, Gd c := by
  have hl : ∀ c ∈ l, Gd c := fun c hc => ⟨ho c hc, by have := (hs c hc).1; unfold lim; omega⟩
  unfold accS
  cases hf : free? l with
  | none => exact hl
  | some q =>
    simp only
    intro d hd
    rcases List.mem_or_eq_of_mem_set hd with hd | rfl
    · exact hl d hd
    · have hm := getD_mem (l := l) (i := q) (free_lt hf).1
      have g := okC_of.1 (ho _ hm)
      have gs := hs _ hm
      refine ⟨okC_of.2 ⟨?_, .inl rfl, g.2.2⟩, by have := gs.1; unfold lim; simp only; omega⟩
      have := gs.2
      simp only
      rw [w_id (by omega) (by omega)]
      omega
theorem l0_is (l x y z : List Cn) (hl : l.length ≤ 40) (a : Int) (at' : Int) (ok : Bool) (hx : x.length = l.length ∧ ∀ i : Nat, (i : Int) ≠ a → rd_T34 x (i : Int) = rd_T34 l (i : Int)) (hy : y.length = l.length ∧ ∀ i : Nat, (i : Int) ≠ a → rd_T34 y (i : Int) = rd_T34 l (i : Int)) (hz : z.length = l.length ∧ ∀ i : Nat, (ok = true → (i : Int) ≠ at') → rd_T34 z (i : Int) = rd_T34 l (i : Int))
    (kx : ∀ c ∈ x, Gd c) (ky : ∀ c ∈ y, Gd c) (kz : ∀ c ∈ z, Gd c) (d : Nat) : ∀ i : Nat, i + d = l.length → Ev (fun k => law22_ConnsOthers.l0 k l a x y z at' ok (i : Int)) true := by
  induction d with
  | zero =>
    intro i hi
    have hr : ∀ w : List Cn, w.length = l.length → (∀ c ∈ w, Gd c) → Ev (fun k => conns_Right.f k w) true := fun w hw hg => by
      have := conns_Right_is w (by unfold lim; omega) (fun c hc => (hg c hc).2)
      rwa [List.all_eq_true.2 (fun c hc => (hg c hc).1)] at this
    refine Ev.step (f := fun k => ((law22_awake.f k).bind fun t244 => (if t244 = true then ((conns_Right.f k x).bind fun t245 => (if t245 = true then ((conns_Right.f k y).bind fun t246 => (if t246 = true then ((conns_Right.f k z).bind fun t247 => (some t247)) else (none))) else (none))) else (none)))) (fun k => by simp only [law22_ConnsOthers.l0]; rw [if_neg (by omega)]) ?_
    refine Ev.bind awake_is (Ev.congr (fun k => if_pos rfl) ?_)
    refine Ev.bind (hr x hx.1 kx) (Ev.congr (fun k => if_pos rfl) ?_)
    refine Ev.bind (hr y hy.1 ky) (Ev.congr (fun k => if_pos rfl) ?_)
    exact Ev.bind (hr z hz.1 kz) (Ev.now true)
  | succ d ih =>
    intro i hi
    have ew : wrap64 ((i : Int) + 1) = ((i + 1 : Nat) : Int) := by rw [w_id (by omega) (by omega)]; rfl
    refine Ev.step (fun k => ?_) (ih (i + 1) (by omega))
    simp only [law22_ConnsOthers.l0]
    rw [ew, if_pos (by omega)]
    have hzz : ∀ A : Option Bool, (if ok = true then (if (i : Int) = at' then A else (if (i : Int) < (z.length : Int) then (if (!(((rd_T34 z i).f0) == ((rd_T34 l i).f0)) || (!(((rd_T34 z i).f1) == ((rd_T34 l i).f1)) || (!(((rd_T34 z i).f2) == ((rd_T34 l i).f2)) || ((!((((rd_T34 z i).f3.f0).toList) == (((rd_T34 l i).f3.f0).toList)) || (!(((rd_T34 z i).f3.f1) == ((rd_T34 l i).f3.f1)))))))) = true then (none) else A) else (none))) else (if (i : Int) < (z.length : Int) then (if (!(((rd_T34 z i).f0) == ((rd_T34 l i).f0)) || (!(((rd_T34 z i).f1) == ((rd_T34 l i).f1)) || (!(((rd_T34 z i).f2) == ((rd_T34 l i).f2)) || ((!((((rd_T34 z i).f3.f0).toList) == (((rd_T34 l i).f3.f0).toList)) || (!(((rd_T34 z i).f3.f1) == ((rd_T34 l i).f3.f1)))))))) = true then (none) else A) else (none))) = A := by
      intro A
      by_cases c1 : ok = true
      · rw [if_pos c1]
        by_cases c2 : (i : Int) = at'
        · rw [if_pos c2]
        · rw [if_neg c2, if_pos (by omega), no_other _ _ (hz.2 i (fun _ => c2)), if_neg (by simp)]
      · rw [if_neg c1, if_pos (by omega), no_other _ _ (hz.2 i (fun h => absurd h c1)), if_neg (by simp)]
    simp only [show (0 : Int) ≤ (i : Int) by omega, if_true]
    rw [hzz]
    by_cases c : (i : Int) = a
    · rw [if_pos c]
    · rw [if_neg c, if_pos (by omega), no_other _ _ (hx.2 i c), if_neg (by simp), if_pos (by omega), no_other _ _ (hy.2 i c), if_neg (by simp)]
theorem ConnsOthers_pure : ConnsOthersPure := by
  intro l a b h0 h1 h2
  suffices h : Ev (fun k => law22_ConnsOthers.f k l a b) true by
    obtain ⟨k, hk⟩ := h
    exact ⟨k, hk k (Nat.le_refl k)⟩
  have aw : Ev (fun k => law22_ConnsOthers.j0 k l a b true) true := by
    refine Ev.step (f := fun k => ((law22_awake.f k).bind fun t217 => (some t217))) (fun k => by simp only [law22_ConnsOthers.j0]; rw [if_pos trivial]) ?_
    exact Ev.bind awake_is (Ev.now true)
  rcases few_is l with hf | ⟨hf, hl, hs⟩
  · exact Ev.congr (fun k => by unfold law22_ConnsOthers.f; rfl) (Ev.bind hf (Ev.congr (fun k => by rw [if_neg (by simp)]) aw))
  · refine Ev.congr (fun k => by unfold law22_ConnsOthers.f; rfl) (Ev.bind hf (Ev.congr (fun k => by rw [if_pos rfl]) ?_))
    by_cases c : (b.size : Int) > 1000
    · exact Ev.congr (fun k => by rw [if_pos c]) aw
    · refine Ev.congr (fun k => by rw [if_neg c]) ?_
      have hlim : l.length ≤ lim := by unfold lim; omega
      refine Ev.bind (ref22_Right_is l hlim (fun c hc => by have := (hs c hc).1; unfold lim; omega)) ?_
      cases ho : l.all okC with
      | false => exact aw
      | true =>
        have ho' := List.all_eq_true.1 ho
        obtain ⟨bl, rfl⟩ := ofB b
        rw [B_size] at c
        have hp := conns_Push_is l hlim (fun c hc => by have := (hs c hc).1; unfold lim; omega) a bl (by unfold lim; omega)
        have sx := pus_same l a bl
        have sy := clo_same l a
        have sz := acc_same l 7
        refine Ev.step (f := fun k => ((conns_Push.f k l a (B bl)).bind fun bt218 => ((conns_Close.f l a).bind fun t224 => ((conns_Accept.f k l 7).bind fun bt227 => (if (bt218.1.length : Int) = (l.length : Int) then (if (t224.length : Int) = (l.length : Int) then (law22_ConnsOthers.j1 k l a bt218.1 t224 bt227.1 bt227.2.1 bt227.2.2 ((bt227.1.length : Int) != (l.length : Int))) else (law22_ConnsOthers.j1 k l a bt218.1 t224 bt227.1 bt227.2.1 bt227.2.2 true)) else (law22_ConnsOthers.j1 k l a bt218.1 t224 bt227.1 bt227.2.1 bt227.2.2 true)))))) (fun k => by simp only [law22_ConnsOthers.j0]; rw [if_neg (by simp)]) ?_
        refine Ev.bind hp ?_
        refine Ev.congr (fun k => by rw [conns_Close_is l hlim, Option.bind_some]) ?_
        refine Ev.bind (conns_Accept_is l hlim 7) ?_
        refine Ev.congr (fun k => by rw [if_pos (by rw [sx.1]), if_pos (by rw [sy.1]), sz.1, bne_self_eq_false]) ?_
        refine Ev.step (fun k => by simp only [law22_ConnsOthers.j1]; rw [if_neg (by simp)]) ?_
        exact l0_is l _ _ _ hl a _ _ sx sy sz (pus_ok l a bl (by omega) hs ho') (clo_ok l a hs ho') (acc_ok l 7 hs ho') l.length 0 (by omega)
end Go.Proofs.Ytgffhdgfloimaaa.Pure

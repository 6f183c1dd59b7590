/- What script's Right, Put and Get, and the reference's, compute, on lists of bytes: plain Lean. -/
import Derived.Test.YtcdklefgnecjmaaP0
import Derived.Test.YtcdklefgnecjmaaP2
import Derived.Test.YtcdklefgnecjmaaP3
import Derived.Test.YtcdklefgnecjmaaP4
import Derived.Test.YtcdklefgnecjmaaP5
import Derived.Test.YtcdklefgnecjmaaOpen
import Derived.Test.YtcdklefgnecjmaaTwinLaws
import Derived.Test.YtcdklefgnecjmaaRefAllP
namespace Go.Proofs.Ytcdklefgnecjmaa.Base
open Go.RowKit Go.Proofs.YtcdklefgnecjmaaW.PrintWords Go.Proofs.YtcdklefgnecjmaaW.PrintLast Go.Proofs.YtcdklefgnecjmaaW.PrintMore Go.Proofs.Ytcdklefgnecjmaa.P Go.Proofs.Ytcdklefgnecjmaa
set_option linter.unusedVariables false
set_option linter.unusedSimpArgs false

abbrev E := S27
/-- May an event be written? -/
def okE (e : E) : Prop := (okN e.f0 ∧ okN e.f1 ∧ okN e.f2) ∧ e.f3.size ≤ 65535
instance (e : E) : Decidable (okE e) := inferInstanceAs (Decidable (_ ∧ _))
def inI (a : Int) : Prop := -9223372036854775808 ≤ a ∧ a ≤ 9223372036854775807
def inE (e : E) : Prop := inI e.f0 ∧ inI e.f1 ∧ inI e.f2
theorem wrapU (a : Int) : IntKind.u64.wrap a = a % 18446744073709551616 := by simp [IntKind.wrap, IntKind.bits, IntKind.signed]
theorem script_Right_is (e : E) (h : inE e) : script_Right.f e.f0 e.f1 e.f2 e.f3 = some (decide (okE e)) := by
  obtain ⟨h0, h1, h2⟩ := h
  unfold script_Right.f
  rw [wrapU, wrapU, wrapU]
  unfold inI at h0 h1 h2
  split
  · split
    · split
      · refine congrArg some (decide_eq_decide.2 ?_)
        unfold okE okN; omega
      · refine congrArg some (Eq.symm (decide_eq_false ?_)); unfold okE okN; omega
    · refine congrArg some (Eq.symm (decide_eq_false ?_)); unfold okE okN; omega
  · refine congrArg some (Eq.symm (decide_eq_false ?_)); unfold okE okN; omega
theorem ref26_Right_is (e : E) : ref26_Right.f e.f0 e.f1 e.f2 e.f3 = some (decide (okE e)) := by
  unfold ref26_Right.f
  repeat' split
  all_goals first
    | (refine congrArg some (decide_eq_decide.2 ?_); unfold okE okN; omega)
    | (refine congrArg some (Eq.symm (decide_eq_false ?_)); unfold okE okN; omega)
/-- A string's bytes. -/
def bl (s : ByteArray) : List UInt8 := s.data.toList
theorem B_bl (s : ByteArray) : B (bl s) = s := by simp [B, bl]
theorem bl_B (l : List UInt8) : bl (B l) = l := by simp [B, bl]
theorem bl_len (s : ByteArray) : (bl s).length = s.size := by unfold bl; rw [Array.length_toList]; rfl
/-- An event's head. -/
def headE (e : E) : List Int := [e.f0, e.f1, e.f2, (e.f3.size : Int)]
theorem allN_head (e : E) : allN (headE e) ↔ okE e := by
  unfold allN headE okE
  constructor
  · intro h
    have h3 := h (e.f3.size : Int) (.tail _ (.tail _ (.tail _ (.head _))))
    exact ⟨⟨h _ (.head _), h _ (.tail _ (.head _)), h _ (.tail _ (.tail _ (.head _)))⟩, by have := h3.2; omega⟩
  · rintro ⟨⟨h0, h1, h2⟩, h3⟩ a ha
    simp only [List.mem_cons, List.not_mem_nil, or_false] at ha
    rcases ha with rfl | rfl | rfl | rfl
    · exact h0
    · exact h1
    · exact h2
    · exact ⟨by omega, by omega⟩
/-- An event's bytes. -/
def evB (e : E) : List UInt8 := putAll (headE e) ++ bl e.f3
def evsB : List E → List UInt8
  | [] => []
  | e :: l => evB e ++ evsB l
def allE (l : List E) : Prop := ∀ e ∈ l, okE e
instance (l : List E) : Decidable (allE l) := inferInstanceAs (Decidable (∀ e ∈ l, okE e))
theorem evB_len (e : E) : (evB e).length = 8 + e.f3.size := by unfold evB; rw [List.length_append, putAll_len, bl_len]; rfl
theorem evsB_app (a b : List E) : evsB (a ++ b) = evsB a ++ evsB b := by
  induction a with
  | nil => rfl
  | cons e a ih => rw [List.cons_append, evsB, ih, evsB, List.append_assoc]
theorem allE_app (a b : List E) : allE (a ++ b) ↔ allE a ∧ allE b := by
  unfold allE; constructor
  · exact fun h => ⟨fun e he => h e (List.mem_append_left _ he), fun e he => h e (List.mem_append_right _ he)⟩
  · rintro ⟨h1, h2⟩ e he; rcases List.mem_append.1 he with he | he; exact h1 e he; exact h2 e he
theorem allE_cons (e : E) (l : List E) : allE (e :: l) ↔ okE e ∧ allE l := by
  unfold allE; constructor
  · exact fun h => ⟨h e List.mem_cons_self, fun y hy => h y (List.mem_cons_of_mem _ hy)⟩
  · rintro ⟨h1, h2⟩ y hy; rcases List.mem_cons.1 hy with rfl | hy; exact h1; exact h2 y hy
theorem evsB_many (l : List E) : 8 * l.length ≤ (evsB l).length := by
  induction l with
  | nil => simp [evsB]
  | cons e l ih => rw [evsB, List.length_append, evB_len, List.length_cons]; omega
theorem rdE_get (l : List E) (i : Nat) (h : i < l.length) : rd_T27 l (i : Int) = l[i] := by
  unfold rd_T27; rw [Int.toNat_natCast, List.getD_eq_getElem?_getD, List.getElem?_eq_getElem h]; rfl
theorem put_loop (l : List E) (hi : ∀ e ∈ l, inE e) (hT : (evsB l).length ≤ 1099511627776) (d : Nat) : ∀ (i : Nat) (m : List UInt8), i ≤ l.length → l.length - i = d → m.length + (evsB (l.drop i)).length ≤ 1099511627776 →
    Ev (fun k => script_Put.l0 k (bytesOf (B m)) l (l.length : Int) (i : Int)) (if allE (l.drop i) then (B (m ++ evsB (l.drop i)), true) else (B [], false)) := by
  have hm8 := evsB_many l
  induction d with
  | zero =>
    intro i m hil hd hm
    refine Ev.step (f := fun _ => some (B m, true)) (fun k => ?_) ?_
    · simp only [script_Put.l0]; rw [if_neg (by omega), B_back]
    · rw [List.drop_eq_nil_of_le (by omega), if_pos (show allE [] from fun a ha => by simp at ha)]
      simpa [evsB] using Ev.now _
  | succ d ih =>
    intro i m hil hd hm
    have hlt : i < l.length := by omega
    have hwi := hi l[i] (List.getElem_mem hlt)
    have edrop : l.drop i = l[i] :: l.drop (i + 1) := List.drop_eq_getElem_cons hlt
    rw [edrop] at hm ⊢
    rw [evsB, List.length_append, evB_len] at hm
    by_cases hok : okE l[i]
    · refine Ev.step (f := fun k => (twin_PutAll.f k (headE l[i])).bind fun bt => if (bytesOf (B m)).length + bt.1.size < 140737488355328 then ((some (bytesOf (B m) ++ bytesOf bt.1 : List Int)).bind fun y => (if y.length + (l[i]).f3.size < 140737488355328 then (script_Put.l0 k (y ++ bytesOf (l[i]).f3) l (l.length : Int) ((i + 1 : Nat) : Int)) else none)) else none) (fun k => ?_) ?_
      · simp only [script_Put.l0]
        rw [if_pos (by omega), if_pos (by omega), if_pos (by omega), rdE_get l i hlt, script_Right_is _ hwi, Option.bind_some, decide_eq_true hok, if_pos rfl, w_id (by omega) (by omega)]
        rfl
      · refine Ev.bind (twin_PutAll_is (headE l[i]) (by show 4 ≤ _; omega) ?_) ?_
        · intro a ha
          unfold headE at ha
          simp only [List.mem_cons, List.not_mem_nil, or_false] at ha
          obtain ⟨g0, g1, g2⟩ := hwi
          rcases ha with rfl | rfl | rfl | rfl
          · exact g0
          · exact g1
          · exact g2
          · constructor <;> omega
        · rw [if_pos ((allN_head _).2 hok)]
          have hp : (putAll (headE l[i])).length = 8 := by rw [putAll_len]; rfl
          have hc := ih (i + 1) (m ++ putAll (headE l[i]) ++ bl (l[i]).f3) (by omega) (by omega) (by rw [List.length_append, List.length_append, hp, bl_len]; omega)
          refine Ev.congr (f := fun k => script_Put.l0 k (bytesOf (B (m ++ putAll (headE l[i]) ++ bl (l[i]).f3))) l (l.length : Int) ((i + 1 : Nat) : Int)) (fun k => ?_) ?_
          · show (if (bytesOf (B m)).length + (B (putAll (headE l[i]))).size < 140737488355328 then _ else _) = _
            rw [bytesOf_length, B_size, B_size, hp, if_pos (by omega), Option.bind_some, bytesOf_cat, bytesOf_length, B_size, List.length_append, hp, if_pos (by omega)]
            conv => lhs; rw [← B_bl (l[i]).f3, bytesOf_cat]
          · have e : allE (l[i] :: l.drop (i + 1)) ↔ allE (l.drop (i + 1)) := by rw [allE_cons]; exact ⟨fun h => h.2, fun h => ⟨hok, h⟩⟩
            simp only [e, evsB, evB]
            simpa only [List.append_assoc] using hc
    · refine Ev.step (f := fun _ => some (B [], false)) (fun k => ?_) ?_
      · simp only [script_Put.l0]
        rw [if_pos (by omega), if_pos (by omega), if_pos (by omega), rdE_get l i hlt, script_Right_is _ hwi, Option.bind_some, decide_eq_false hok, if_neg (by simp)]
        rfl
      · rw [if_neg (fun h => hok (h _ List.mem_cons_self))]
        exact Ev.now _
theorem script_Put_is (l : List E) (hi : ∀ e ∈ l, inE e) (hT : (evsB l).length ≤ 1099511627776) :
    Ev (fun k => script_Put.f k l) (if allE l then (B (evsB l), true) else (B [], false)) := by
  have := put_loop l hi hT l.length 0 [] (by omega) (by omega) (by simpa using hT)
  refine Ev.congr (fun k => ?_) (by simpa using this)
  unfold script_Put.f
  rfl
theorem rput_loop (l : List E) (hT : (evsB l).length ≤ 1099511627776) (d : Nat) : ∀ (i : Nat) (m : List UInt8), i ≤ l.length → l.length - i = d → m.length + (evsB (l.drop i)).length ≤ 1099511627776 →
    Ev (fun k => ref26_Put.l0 k l (B m) (i : Int)) (if allE (l.drop i) then (B (m ++ evsB (l.drop i)), true) else (B [], false)) := by
  have hm8 := evsB_many l
  induction d with
  | zero =>
    intro i m hil hd hm
    refine Ev.step (f := fun _ => some (B m, true)) (fun k => ?_) ?_
    · simp only [ref26_Put.l0]; rw [if_neg (by omega)]
    · rw [List.drop_eq_nil_of_le (by omega), if_pos (show allE [] from fun a ha => by simp at ha)]
      simpa [evsB] using Ev.now _
  | succ d ih =>
    intro i m hil hd hm
    have hlt : i < l.length := by omega
    have edrop : l.drop i = l[i] :: l.drop (i + 1) := List.drop_eq_getElem_cons hlt
    rw [edrop] at hm ⊢
    rw [evsB, List.length_append, evB_len] at hm
    by_cases hok : okE l[i]
    · refine Ev.step (f := fun k => (ref01_PutAll.f k (headE l[i])).bind fun bt => if (B m).size + bt.1.size ≤ 9223372036854775807 then (if (B m).size + bt.1.size + (l[i]).f3.size ≤ 9223372036854775807 then ref26_Put.l0 k l ((B m ++ bt.1) ++ (l[i]).f3) ((i + 1 : Nat) : Int) else none) else none) (fun k => ?_) ?_
      · simp only [ref26_Put.l0]
        rw [if_pos (by omega), if_pos (by omega), rdE_get l i hlt, ref26_Right_is, Option.bind_some, decide_eq_true hok, if_pos rfl, w_id (by omega) (by omega)]
        rfl
      · refine Ev.bind (ref01_PutAll_is (headE l[i]) (by show 4 ≤ _; omega)) ?_
        rw [if_pos ((allN_head _).2 hok)]
        have hp : (putAll (headE l[i])).length = 8 := by rw [putAll_len]; rfl
        have hc := ih (i + 1) (m ++ putAll (headE l[i]) ++ bl (l[i]).f3) (by omega) (by omega) (by rw [List.length_append, List.length_append, hp, bl_len]; omega)
        refine Ev.congr (f := fun k => ref26_Put.l0 k l (B (m ++ putAll (headE l[i]) ++ bl (l[i]).f3)) ((i + 1 : Nat) : Int)) (fun k => ?_) ?_
        · show (if (B m).size + (B (putAll (headE l[i]))).size ≤ 9223372036854775807 then _ else _) = _
          rw [B_size, B_size, hp, if_pos (by omega), if_pos (by omega), B_cat]
          conv => lhs; rw [← B_bl (l[i]).f3, B_cat]
        · have e : allE (l[i] :: l.drop (i + 1)) ↔ allE (l.drop (i + 1)) := by rw [allE_cons]; exact ⟨fun h => h.2, fun h => ⟨hok, h⟩⟩
          simp only [e, evsB, evB]
          simpa only [List.append_assoc] using hc
    · refine Ev.step (f := fun _ => some (B [], false)) (fun k => ?_) ?_
      · simp only [ref26_Put.l0]
        rw [if_pos (by omega), if_pos (by omega), rdE_get l i hlt, ref26_Right_is, Option.bind_some, decide_eq_false hok, if_neg (by simp)]
        rfl
      · rw [if_neg (fun h => hok (h _ List.mem_cons_self))]
        exact Ev.now _
theorem ref26_Put_is (l : List E) (hT : (evsB l).length ≤ 1099511627776) :
    Ev (fun k => ref26_Put.f k l) (if allE l then (B (evsB l), true) else (B [], false)) := by
  have := rput_loop l hT l.length 0 [] (by omega) (by omega) (by simpa using hT)
  refine Ev.congr (fun k => ?_) (by simpa using this)
  unfold ref26_Put.f
  rfl
/-- The event at a place. -/
def ev (s : List UInt8) (i : Nat) : E := ⟨(g2 s i : Nat), (g2 s (i + 2) : Nat), (g2 s (i + 4) : Nat), B ((s.drop (i + 8)).take (g2 s (i + 6)))⟩
/-- It isn't all there. -/
def short (s : List UInt8) (i : Nat) : Prop := s.length < i + 8 ∨ s.length < i + 8 + g2 s (i + 6)
instance (s : List UInt8) (i : Nat) : Decidable (short s i) := inferInstanceAs (Decidable (_ ∨ _))
theorem b1_cut (s : List UInt8) (i n j : Nat) (h : j < n) : b1 ((s.drop i).take n) j = b1 s (i + j) := by
  unfold b1; rw [List.getElem?_take_of_lt h, List.getElem?_drop]
theorem g2_cut (s : List UInt8) (i n j : Nat) (h : j + 1 < n) : g2 ((s.drop i).take n) j = g2 s (i + j) := by
  unfold g2; rw [b1_cut s i n j (by omega), b1_cut s i n (j + 1) h, Nat.add_assoc]
theorem rd_four (s : List UInt8) (i : Nat) (h : i + 8 ≤ s.length) (j : Nat) (hj : j < 4) : rd (getAll ((s.drop i).take 8)) (j : Int) = (g2 s (i + 2 * j) : Nat) := by
  have hl : ((s.drop i).take 8).length = 8 := by rw [List.length_take, List.length_drop]; omega
  unfold rd
  rw [Int.toNat_natCast, List.getD_eq_getElem?_getD, getAll_get j _ (by omega), g2_cut s i 8 (2 * j) (by omega)]
  rfl
theorem cut_eq (s : List UInt8) (i j : Nat) (h : i ≤ s.length) : ((((((s.take s.length).drop i).take (s.length - i)).drop 8).take j).drop 0) = (s.drop (i + 8)).take j := by
  have h1 : (s.drop i).take (s.length - i) = s.drop i := List.take_of_length_le (by rw [List.length_drop]; exact Nat.le_refl _)
  rw [List.take_length, h1, List.drop_zero, List.drop_drop]
theorem next_is (s : List UInt8) (hs : s.length ≤ 1099511627776) (i : Nat) (hi : i ≤ s.length) :
    Ev (fun k => script_cursor_next.f k (B s) (i : Int)) (if short s i then (0, 0, 0, B [], false, B s, (i : Int)) else ((ev s i).f0, (ev s i).f1, (ev s i).f2, (ev s i).f3, true, B s, ((i + 8 + g2 s (i + 6) : Nat) : Int))) := by
  by_cases c : s.length < i + 8
  · rw [if_pos (show short s i from .inl c)]
    refine Ev.congr (fun k => ?_) (Ev.now _)
    unfold script_cursor_next.f
    rw [B_size, if_pos (by omega), if_pos (by omega), if_pos (by omega)]
    rfl
  · have hl : ((s.drop i).take 8).length = 8 := by rw [List.length_take, List.length_drop]; omega
    have et : ((B s).extract i s.length).extract 0 8 = B ((s.drop i).take 8) := by
      rw [B_cut, B_cut, List.take_length, List.drop_zero]
    have hG := twin_GetAll_is ((s.drop i).take 8) (by omega)
    rw [hl, if_pos (by decide)] at hG
    have hlen : (getAll ((s.drop i).take 8)).length = 4 := by rw [getAll_len 8 _ (by omega), hl]
    have r0 := rd_four s i (by omega) 0 (by omega)
    have r1 := rd_four s i (by omega) 1 (by omega)
    have r2 := rd_four s i (by omega) 2 (by omega)
    have r3 := rd_four s i (by omega) 3 (by omega)
    have hg := g2_lt s (i + 6)
    refine Ev.congr (f := fun k => (twin_GetAll.f k (B ((s.drop i).take 8))).bind fun bt136 => (if 3 < (bt136.1.length : Int) then (if ((s.length - i - 8 : Nat) : Int) < (rd bt136.1 3) then (some (0, 0, 0, (⟨#[]⟩ : ByteArray), false, B s, (i : Int))) else (if 0 < (bt136.1.length : Int) then (if 1 < (bt136.1.length : Int) then (if 2 < (bt136.1.length : Int) then (if 0 ≤ (rd bt136.1 3) then (if (rd bt136.1 3) ≤ ((s.length - i - 8 : Nat) : Int) then (some (rd bt136.1 0, rd bt136.1 1, rd bt136.1 2, (((B s).extract i s.length).extract 8 (s.length - i)).extract 0 ((rd bt136.1 3) : Int).toNat, true, B s, wrap64 ((i : Int) + (wrap64 (8 + (rd bt136.1 3)))))) else (none)) else (none)) else (none)) else (none)) else (none))) else (none))) (fun k => ?_) ?_
    · unfold script_cursor_next.f
      rw [B_size, Int.toNat_natCast, if_pos (by omega), if_pos (by omega), if_neg (by omega), if_pos (by decide), if_pos (by omega), et]
    · refine Ev.bind hG ?_
      refine Ev.congr (fun k => ?_) (Ev.now _)
      show (if 3 < ((getAll ((s.drop i).take 8)).length : Int) then _ else _) = _
      have r3' : rd (getAll ((s.drop i).take 8)) 3 = (g2 s (i + 6) : Nat) := r3
      rw [hlen, if_pos (by decide), r3']
      by_cases c2 : s.length < i + 8 + g2 s (i + 6)
      · rw [if_pos (by omega), if_pos (show short s i from .inr c2)]
        rfl
      · rw [if_neg (by omega), if_neg (show ¬ short s i from fun h => by unfold short at h; omega), if_pos (by decide), if_pos (by decide), if_pos (by decide), if_pos (by omega), if_pos (by omega), Int.toNat_natCast, B_cut, B_cut, B_cut, cut_eq s i _ hi, w_id (x := 8 + ((g2 s (i + 6) : Nat) : Int)) (by omega) (by omega), w_id (by omega) (by omega)]
        have r0' : rd (getAll ((s.drop i).take 8)) 0 = (g2 s i : Nat) := r0
        have r1' : rd (getAll ((s.drop i).take 8)) 1 = (g2 s (i + 2) : Nat) := r1
        have r2' : rd (getAll ((s.drop i).take 8)) 2 = (g2 s (i + 4) : Nat) := r2
        rw [r0', r1', r2', show (i : Int) + (8 + ((g2 s (i + 6) : Nat) : Int)) = ((i + 8 + g2 s (i + 6) : Nat) : Int) by omega]
        rfl
/-- The events from a place on. -/
def scan (s : List UInt8) : Nat → Nat → List E → List E × Int × Int
  | 0, _, acc => (acc, 0, 0)
  | n + 1, i, acc => if s.length ≤ i then (acc, 0, 0) else if short s i then ([], (i : Int), 5) else scan s n (i + 8 + g2 s (i + 6)) (acc ++ [ev s i])
theorem get_loop (s : List UInt8) (hs : s.length ≤ 1099511627776) : ∀ (n i : Nat) (acc : List E), i ≤ s.length → s.length - i ≤ n → acc.length ≤ i → Ev (fun k => script_Get.l0 k (B s) acc (B s) (i : Int)) (scan s n i acc) := by
  intro n
  induction n with
  | zero =>
    intro i acc hi hn ha
    refine Ev.step (f := fun _ => some (acc, 0, 0)) (fun k => ?_) (Ev.now _)
    simp only [script_Get.l0]
    rw [B_size, if_neg (by omega)]
  | succ n ih =>
    intro i acc hi hn ha
    unfold scan
    by_cases c : s.length ≤ i
    · rw [if_pos c]
      refine Ev.step (f := fun _ => some (acc, 0, 0)) (fun k => ?_) (Ev.now _)
      simp only [script_Get.l0]
      rw [B_size, if_neg (by omega)]
    · rw [if_neg c]
      have hN := next_is s hs i hi
      refine Ev.step (fun k => by simp only [script_Get.l0]; rw [B_size, if_pos (by omega)]) ?_
      refine Ev.bind hN ?_
      by_cases c2 : short s i
      · rw [if_pos c2, if_pos c2]
        exact Ev.congr (fun k => if_neg (by simp)) (Ev.now _)
      · rw [if_neg c2, if_neg c2]
        have hsh : ¬ (s.length < i + 8 ∨ s.length < i + 8 + g2 s (i + 6)) := c2
        refine Ev.congr (fun k => ?_) (ih (i + 8 + g2 s (i + 6)) (acc ++ [ev s i]) (by omega) (by omega) (by rw [List.length_append]; show acc.length + 1 ≤ _; omega))
        rw [if_pos rfl, if_pos (by omega)]
theorem script_Get_is (s : List UInt8) (hs : s.length ≤ 1099511627776) : Ev (fun k => script_Get.f k (B s)) (scan s s.length 0 []) :=
  Ev.congr (fun k => rfl) (get_loop s hs s.length 0 [] (by omega) (by omega) (by simp))
theorem At_is (s : List UInt8) (hs : s.length ≤ 1099511627776) (i : Nat) (h : i + 2 ≤ s.length) : ref01_At.f (B s) (i : Int) = some ((g2 s i : Nat) : Int) := by
  rw [ref01_At_is s (by omega)]
  unfold tGet
  rw [if_pos (by omega), Int.toNat_natCast]
theorem rget_loop (s : List UInt8) (hs : s.length ≤ 1099511627776) : ∀ (n i : Nat) (acc : List E), i ≤ s.length → s.length - i ≤ n → acc.length ≤ i → Ev (fun k => ref26_Get.l0 k (B s) acc (i : Int)) (scan s n i acc) := by
  intro n
  induction n with
  | zero =>
    intro i acc hi hn ha
    refine Ev.step (f := fun _ => some (acc, 0, 0)) (fun k => ?_) (Ev.now _)
    simp only [ref26_Get.l0]
    rw [B_size, if_neg (by omega)]
  | succ n ih =>
    intro i acc hi hn ha
    unfold scan
    by_cases c : s.length ≤ i
    · rw [if_pos c]
      refine Ev.step (f := fun _ => some (acc, 0, 0)) (fun k => ?_) (Ev.now _)
      simp only [ref26_Get.l0]
      rw [B_size, if_neg (by omega)]
    · rw [if_neg c]
      have e1 : wrap64 ((s.length : Int) - i) = (s.length : Int) - i := w_id (by omega) (by omega)
      have hT : short s i → Ev (fun k => ref26_Get.j1 k (B s) acc (i : Int) true) ([], (i : Int), 5) := fun _ => Ev.step (f := fun _ => some ([], (i : Int), 5)) (fun k => by simp only [ref26_Get.j1, if_true]) (Ev.now _)
      by_cases c1 : s.length < i + 8
      · have hsh : short s i := .inl c1
        rw [if_pos hsh]
        exact Ev.step (fun k => by simp only [ref26_Get.l0]; rw [B_size, if_pos (by omega), e1, if_pos (by omega)]) (hT hsh)
      · have e6 : wrap64 ((i : Int) + 6) = ((i + 6 : Nat) : Int) := by rw [w_id (by omega) (by omega)]; omega
        have e2 : wrap64 ((i : Int) + 2) = ((i + 2 : Nat) : Int) := by rw [w_id (by omega) (by omega)]; omega
        have e4 : wrap64 ((i : Int) + 4) = ((i + 4 : Nat) : Int) := by rw [w_id (by omega) (by omega)]; omega
        have e8 : wrap64 ((i : Int) + 8) = ((i + 8 : Nat) : Int) := by rw [w_id (by omega) (by omega)]; omega
        have hg := g2_lt s (i + 6)
        refine Ev.step (f := fun k => ref26_Get.j1 k (B s) acc (i : Int) (decide ((s.length : Int) - i - 8 < (g2 s (i + 6) : Nat)))) (fun k => ?_) ?_
        · simp only [ref26_Get.l0]
          rw [B_size, if_pos (by omega), e1, if_neg (by omega), e6, At_is s hs _ (by omega), Option.bind_some, w_id (by omega) (by omega)]
        · by_cases c2 : s.length < i + 8 + g2 s (i + 6)
          · rw [if_pos (show short s i from .inr c2), decide_eq_true (by omega)]
            exact hT (.inr c2)
          · have hsh : ¬ short s i := fun h => by unfold short at h; omega
            rw [if_neg hsh, decide_eq_false (by omega)]
            refine Ev.step (f := fun k => ref26_Get.l0 k (B s) (acc ++ [ev s i]) ((i + 8 + g2 s (i + 6) : Nat) : Int)) (fun k => ?_) (ih _ _ (by omega) (by omega) (by rw [List.length_append]; show acc.length + 1 ≤ _; omega))
            simp only [ref26_Get.j1, Bool.false_eq_true, if_false]
            rw [e6, e2, e4, e8, At_is s hs _ (by omega), Option.bind_some, At_is s hs _ (by omega), Option.bind_some, At_is s hs _ (by omega), Option.bind_some, At_is s hs _ (by omega), Option.bind_some]
            have f1 : (0 : Int) ≤ ((i + 8 : Nat) : Int) := Int.natCast_nonneg _
            have f2 : ((i + 8 : Nat) : Int) ≤ ((i + 8 + g2 s (i + 6) : Nat) : Int) := by clear e1 e2 e4 e6 e8 ih; omega
            have f3 : ((i + 8 + g2 s (i + 6) : Nat) : Int) ≤ (s.length : Int) := by clear e1 e2 e4 e6 e8 ih; omega
            have f4 : acc.length < 3518437208883 := by clear e1 e2 e4 e6 e8 ih; omega
            have e9 : wrap64 (((i + 8 : Nat) : Int) + ((g2 s (i + 6) : Nat) : Int)) = ((i + 8 + g2 s (i + 6) : Nat) : Int) := by rw [w_id (by omega) (by omega)]; omega
            rw [e9, B_size, if_pos f1, if_pos f2, if_pos f3, if_pos f4, Int.toNat_natCast, Int.toNat_natCast, B_cut, List.drop_take, show i + 8 + g2 s (i + 6) - (i + 8) = g2 s (i + 6) by omega]
            rfl
theorem ref26_Get_is (s : List UInt8) (hs : s.length ≤ 1099511627776) : Ev (fun k => ref26_Get.f k (B s)) (scan s s.length 0 []) :=
  Ev.congr (fun k => rfl) (rget_loop s hs s.length 0 [] (by omega) (by omega) (by simp))
theorem same_loop (l : List E) (hl : l.length ≤ 1099511627776) (d : Nat) : ∀ i : Nat, i ≤ l.length → l.length - i = d → Ev (fun k => ref26_Same.l0 k l l (i : Int)) true := by
  induction d with
  | zero => intro i hi hd; exact Ev.step (f := fun _ => some true) (fun k => by simp only [ref26_Same.l0]; rw [if_neg (by omega)]) (Ev.now _)
  | succ d ih =>
    intro i hi hd
    refine Ev.step (f := fun k => ref26_Same.l0 k l l ((i + 1 : Nat) : Int)) (fun k => ?_) (ih _ (by omega) (by omega))
    simp only [ref26_Same.l0]
    rw [if_pos (by omega), if_pos (by omega), if_pos (by omega), w_id (by omega) (by omega), if_neg (by simp only [beq_self_eq_true, Bool.not_true, Bool.or_false, Bool.false_eq_true, not_false_eq_true])]
    rfl
theorem same_is (l : List E) (hl : l.length ≤ 1099511627776) : Ev (fun k => ref26_Same.f k l l) true := by
  refine Ev.congr (fun k => ?_) (same_loop l hl l.length 0 (by omega) (by omega))
  unfold ref26_Same.f
  rw [if_pos rfl]
  rfl
def fewE (l : List E) (n : Int) : Prop := (l.length : Int) ≤ n ∧ ∀ e ∈ l, e.f3.size ≤ 600
theorem few_loop (l : List E) (hl : l.length ≤ 1099511627776) (d : Nat) : ∀ i : Nat, i ≤ l.length → l.length - i = d → ∃ b, Ev (fun k => ref25_Few.l0 k l (i : Int)) b ∧ (b = true → ∀ e ∈ l.drop i, e.f3.size ≤ 600) := by
  induction d with
  | zero => intro i hi hd; exact ⟨true, Ev.step (f := fun _ => some true) (fun k => by simp only [ref25_Few.l0]; rw [if_neg (by omega)]) (Ev.now _), fun _ e he => by rw [List.drop_eq_nil_of_le (by omega)] at he; simp at he⟩
  | succ d ih =>
    intro i hi hd
    have hlt : i < l.length := by omega
    have edrop : l.drop i = l[i] :: l.drop (i + 1) := List.drop_eq_getElem_cons hlt
    by_cases c : (l[i]).f3.size > 600
    · refine ⟨false, Ev.step (f := fun _ => some false) (fun k => ?_) (Ev.now _), fun h => by cases h⟩
      simp only [ref25_Few.l0]
      rw [if_pos (by omega), if_pos (by omega), rdE_get l i hlt, if_pos (by omega)]
    · obtain ⟨b, h1, h2⟩ := ih (i + 1) (by omega) (by omega)
      refine ⟨b, Ev.step (f := fun k => ref25_Few.l0 k l ((i + 1 : Nat) : Int)) (fun k => ?_) h1, fun hb e he => ?_⟩
      · simp only [ref25_Few.l0]
        rw [if_pos (by omega), if_pos (by omega), rdE_get l i hlt, if_neg (by omega), w_id (by omega) (by omega)]
        rfl
      · rw [edrop] at he
        rcases List.mem_cons.1 he with rfl | he
        · omega
        · exact h2 hb e he
theorem few_is (l : List E) (n : Int) (hn : n ≤ 100) : ∃ b, Ev (fun k => ref25_Few.f k l n) b ∧ (b = true → fewE l n) := by
  by_cases c : (l.length : Int) > n
  · exact ⟨false, Ev.congr (f := fun _ => some false) (fun k => by unfold ref25_Few.f; rw [if_pos c]) (Ev.now _), fun h => by cases h⟩
  · obtain ⟨b, h1, h2⟩ := few_loop l (by omega) l.length 0 (by omega) (by omega)
    exact ⟨b, Ev.congr (fun k => by unfold ref25_Few.f; rw [if_neg c]; rfl) h1, fun hb => ⟨by omega, h2 hb⟩⟩
theorem few_small (l : List E) (h : ∀ e ∈ l, e.f3.size ≤ 600) : (evsB l).length ≤ 608 * l.length := by
  induction l with
  | nil => simp [evsB]
  | cons e l ih =>
    have := ih (fun y hy => h y (List.mem_cons_of_mem _ hy))
    have := h e List.mem_cons_self
    rw [evsB, List.length_append, evB_len, List.length_cons]; omega
/-- The event of an event's bytes. -/
theorem ev_back (pre rest : List UInt8) (e : E) (h : okE e) : ¬ short (pre ++ (evB e ++ rest)) pre.length ∧ ev (pre ++ (evB e ++ rest)) pre.length = e ∧ pre.length + 8 + g2 (pre ++ (evB e ++ rest)) (pre.length + 6) = pre.length + (evB e).length := by
  have hp : (putAll (headE e)).length = 8 := by rw [putAll_len]; rfl
  have hlen : (pre ++ (evB e ++ rest)).length = pre.length + (8 + e.f3.size) + rest.length := by rw [List.length_append, List.length_append, evB_len]; omega
  have hd : (pre ++ (evB e ++ rest)).drop pre.length = putAll (headE e) ++ (bl e.f3 ++ rest) := by rw [List.drop_left, evB, List.append_assoc]
  have ht : ((pre ++ (evB e ++ rest)).drop pre.length).take 8 = putAll (headE e) := by rw [hd, ← hp, List.take_left]
  have hg := getAll_putAll (headE e) ((allN_head e).2 h)
  have q0 := rd_four (pre ++ (evB e ++ rest)) pre.length (by omega) 0 (by omega)
  have q1 := rd_four (pre ++ (evB e ++ rest)) pre.length (by omega) 1 (by omega)
  have q2 := rd_four (pre ++ (evB e ++ rest)) pre.length (by omega) 2 (by omega)
  have q3 := rd_four (pre ++ (evB e ++ rest)) pre.length (by omega) 3 (by omega)
  rw [ht, hg] at q0 q1 q2 q3
  replace q0 : e.f0 = _ := q0
  replace q1 : e.f1 = _ := q1
  replace q2 : e.f2 = _ := q2
  replace q3 : (e.f3.size : Int) = _ := q3
  have q3' : g2 (pre ++ (evB e ++ rest)) (pre.length + 6) = e.f3.size := by
    rw [show pre.length + 2 * 3 = pre.length + 6 from rfl] at q3; omega
  refine ⟨fun hs => by unfold short at hs; rw [q3', hlen] at hs; omega, ?_, by rw [q3', evB_len]; omega⟩
  unfold ev
  rw [q3', ← List.drop_drop, hd, show (8 : Nat) = (putAll (headE e)).length from hp.symm, List.drop_left, ← bl_len e.f3, List.take_left, B_bl]
  rw [show pre.length + 2 * 0 = pre.length from rfl] at q0
  rw [show pre.length + 2 * 1 = pre.length + 2 from rfl] at q1
  rw [show pre.length + 2 * 2 = pre.length + 4 from rfl] at q2
  rw [← q0, ← q1, ← q2]
theorem scan_back (l : List E) : ∀ (pre : List UInt8) (n : Nat) (acc : List E), allE l → (evsB l).length ≤ n → scan (pre ++ evsB l) n pre.length acc = (acc ++ l, 0, 0) := by
  induction l with
  | nil =>
    intro pre n acc _ hn
    cases n with
    | zero => simp [scan]
    | succ n => unfold scan; rw [if_pos (by simp [evsB]), List.append_nil]
  | cons e l ih =>
    intro pre n acc ha hn
    obtain ⟨h1, h2⟩ := (allE_cons e l).1 ha
    rw [evsB, List.length_append, evB_len] at hn
    cases n with
    | zero => omega
    | succ n =>
      obtain ⟨g1, g2', g3⟩ := ev_back pre (evsB l) e h1
      unfold scan
      rw [if_neg (by rw [evsB, List.length_append, List.length_append, evB_len]; omega)]
      rw [evsB, if_neg g1, g2', g3]
      have := ih (pre ++ evB e) n (acc ++ [e]) h2 (by omega)
      rw [List.length_append, List.append_assoc, List.append_assoc] at this
      exact this
/-- An event's bytes, of the bytes where it stands. -/
theorem ev_bytes (s : List UInt8) (i : Nat) (h : ¬ short s i) : evB (ev s i) = (s.drop i).take (8 + g2 s (i + 6)) ∧ okE (ev s i) ∧ inE (ev s i) := by
  unfold short at h
  have h8 : i + 8 ≤ s.length := by omega
  have hl : ((s.drop i).take 8).length = 8 := by rw [List.length_take, List.length_drop]; omega
  have hg := g2_lt s (i + 6)
  have hsz : ((s.drop (i + 8)).take (g2 s (i + 6))).length = g2 s (i + 6) := by rw [List.length_take, List.length_drop]; omega
  have hz : (ev s i).f3.size = g2 s (i + 6) := by show (B _).size = _; rw [B_size, hsz]
  have hh : headE (ev s i) = getAll ((s.drop i).take 8) := by
    have hlen : (getAll ((s.drop i).take 8)).length = 4 := by rw [getAll_len 8 _ (by omega), hl]
    apply List.ext_getElem?
    intro j
    by_cases hj : j < 4
    · rw [getAll_get j _ (by omega), g2_cut s i 8 (2 * j) (by omega)]
      unfold headE
      rw [hz]
      match j, hj with
      | 0, _ => rfl
      | 1, _ => rfl
      | 2, _ => rfl
      | 3, _ => rfl
    · rw [List.getElem?_eq_none (by show 4 ≤ j; omega), List.getElem?_eq_none (by omega)]
  obtain ⟨p1, p2⟩ := putAll_getAll 8 ((s.drop i).take 8) (by omega) (by omega)
  refine ⟨?_, (allN_head _).1 (by rw [hh]; exact p2), ?_⟩
  · unfold evB
    rw [hh, p1]
    show _ ++ bl (B _) = _
    rw [bl_B, ← List.drop_drop, ← List.take_add]
  · have a0 := g2_lt s i
    have a1 := g2_lt s (i + 2)
    have a2 := g2_lt s (i + 4)
    have ii : ∀ n : Nat, n < 65536 → inI (n : Int) := fun n h => ⟨by omega, by omega⟩
    exact ⟨ii _ a0, ii _ a1, ii _ a2⟩
def Good (s : List UInt8) (r : List E × Int × Int) : Prop := (r.2.2 = 0 ∧ r.2.1 = 0 ∧ evsB r.1 = s ∧ allE r.1 ∧ ∀ e ∈ r.1, inE e) ∨ (r.2.2 = 5 ∧ r.1 = [] ∧ 0 ≤ r.2.1 ∧ r.2.1 < s.length)
theorem scan_good (s : List UInt8) : ∀ (n i : Nat) (acc : List E), i ≤ s.length → s.length - i ≤ n → evsB acc = s.take i → allE acc → (∀ e ∈ acc, inE e) → Good s (scan s n i acc) := by
  intro n
  induction n with
  | zero => intro i acc hi hn h1 h2 h3; exact .inl ⟨rfl, rfl, by show evsB acc = s; rw [h1, List.take_of_length_le (by omega)], h2, h3⟩
  | succ n ih =>
    intro i acc hi hn h1 h2 h3
    unfold scan
    by_cases c : s.length ≤ i
    · rw [if_pos c]; exact .inl ⟨rfl, rfl, by show evsB acc = s; rw [h1, List.take_of_length_le (by omega)], h2, h3⟩
    · rw [if_neg c]
      by_cases c2 : short s i
      · rw [if_pos c2]; exact .inr ⟨rfl, rfl, by show (0 : Int) ≤ (i : Int); omega, by show (i : Int) < _; omega⟩
      · rw [if_neg c2]
        obtain ⟨e1, e2, e3⟩ := ev_bytes s i c2
        have hsh := c2
        unfold short at hsh
        refine ih _ _ (by omega) (by omega) ?_ ((allE_app _ _).2 ⟨h2, fun e he => by rw [List.mem_singleton] at he; rw [he]; exact e2⟩) (fun e he => ?_)
        · rw [evsB_app, h1]
          show s.take i ++ (evB (ev s i) ++ []) = _
          rw [List.append_nil, e1, ← List.take_add, Nat.add_assoc]
        · rcases List.mem_append.1 he with he | he
          · exact h3 e he
          · rw [List.mem_singleton] at he; rw [he]; exact e3
end Go.Proofs.Ytcdklefgnecjmaa.Base

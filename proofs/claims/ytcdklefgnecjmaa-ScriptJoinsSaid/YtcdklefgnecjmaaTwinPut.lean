/- What twin.Put and twin.PutAll compute. -/
import Derived.Test.YtcdklefgnecjmaaP0
import Derived.Test.YtcdklefgnecjmaaP2
import Derived.Test.YtcdklefgnecjmaaBase
namespace Go.Proofs.Ytcdklefgnecjmaa.Base
open Go.RowKit Go.Proofs.YtcdklefgnecjmaaW.PrintWords Go.Proofs.YtcdklefgnecjmaaW.PrintLast Go.Proofs.YtcdklefgnecjmaaW.PrintMore Go.Proofs.Ytcdklefgnecjmaa.P
set_option linter.unusedVariables false
set_option linter.unusedSimpArgs false

/-- A number's two bytes. -/
def twoB (n : Nat) : List UInt8 := [UInt8.ofNat (n / 256), UInt8.ofNat (n % 256)]
/-- A number that has two bytes. -/
def okN (a : Int) : Prop := 0 ≤ a ∧ a ≤ 65535
instance (a : Int) : Decidable (okN a) := inferInstanceAs (Decidable (_ ∧ _))
theorem twin_Put_is (a : Int) (h1 : -9223372036854775808 ≤ a) (h2 : a ≤ 9223372036854775807) : twin_Put.f a = some (if okN a then (B (twoB a.toNat), true) else (B [], false)) := by
  unfold twin_Put.f
  have e : IntKind.u64.wrap a = a % 18446744073709551616 := by simp [IntKind.wrap, IntKind.bits, IntKind.signed]
  rw [e]
  by_cases h : okN a
  · have h' := h
    obtain ⟨g1, g2⟩ := h'
    rw [if_neg (by omega), if_pos h, B_nums]
    congr 3
    obtain ⟨n, rfl⟩ := Int.eq_ofNat_of_zero_le g1
    have e1 : (n : Int) / 256 % 256 = ((n / 256 : Nat) : Int) := by omega
    have e2 : (n : Int) % 256 = ((n % 256 : Nat) : Int) := by omega
    simp only [List.map_cons, List.map_nil, e1, e2, Int.toNat_natCast, twoB]
  · rw [if_pos (by unfold okN at h; omega), if_neg h]; rfl
/-- The bytes of all. -/
def putAll : List Int → List UInt8
  | [] => []
  | a :: l => twoB a.toNat ++ putAll l
def allN (l : List Int) : Prop := ∀ a ∈ l, okN a
instance (l : List Int) : Decidable (allN l) := inferInstanceAs (Decidable (∀ a ∈ l, okN a))
theorem putAll_len (l : List Int) : (putAll l).length = 2 * l.length := by
  induction l with
  | nil => rfl
  | cons a l ih => rw [putAll, List.length_append, ih, List.length_cons]; show 2 + _ = _; omega
theorem B_back (m : List UInt8) : strOfNums (bytesOf (B m)) = B m := by
  rw [B_nums]
  congr 1
  unfold bytesOf
  simp [B, Function.comp_def]
theorem bytesOf_cat (m n : List UInt8) : bytesOf (B m) ++ bytesOf (B n) = bytesOf (B (m ++ n)) := by simp [bytesOf, B]
theorem rd_get (l : List Int) (i : Nat) (h : i < l.length) : rd l (i : Int) = l[i] := by
  unfold rd; rw [Int.toNat_natCast, List.getD_eq_getElem?_getD, List.getElem?_eq_getElem h]; rfl
theorem putAll_loop (l : List Int) (hl : l.length ≤ 1099511627776) (hw : ∀ a ∈ l, -9223372036854775808 ≤ a ∧ a ≤ 9223372036854775807) (d : Nat) : ∀ (i : Nat) (m : List UInt8), i ≤ l.length → l.length - i = d → m.length = 2 * i →
    Ev (fun k => twin_PutAll.l0 k (bytesOf (B m)) l (l.length : Int) (i : Int)) (if allN (l.drop i) then (B (m ++ putAll (l.drop i)), true) else (B [], false)) := by
  induction d with
  | zero =>
    intro i m hi hd hm
    refine Ev.step (f := fun _ => some (B m, true)) (fun k => ?_) ?_
    · simp only [twin_PutAll.l0]; rw [if_neg (by omega), B_back]
    · rw [List.drop_eq_nil_of_le (by omega), if_pos (show allN [] from fun a ha => by simp at ha)]
      simpa [putAll] using Ev.now _
  | succ d ih =>
    intro i m hi hd hm
    have hlt : i < l.length := by omega
    have hwi := hw l[i] (List.getElem_mem hlt)
    have edrop : l.drop i = l[i] :: l.drop (i + 1) := List.drop_eq_getElem_cons hlt
    rw [edrop]
    by_cases hok : okN l[i]
    · refine Ev.step (f := fun k => twin_PutAll.l0 k (bytesOf (B (m ++ twoB (l[i]).toNat))) l (l.length : Int) ((i + 1 : Nat) : Int)) (fun k => ?_) ?_
      · simp only [twin_PutAll.l0]
        rw [if_pos (by omega), if_pos (by omega), if_pos (by omega), rd_get l i hlt, twin_Put_is _ hwi.1 hwi.2, if_pos hok, Option.bind_some, if_pos rfl]
        rw [bytesOf_length, B_size, B_size, if_pos (by show m.length + 2 < _; omega), bytesOf_cat, w_id (by omega) (by omega)]
        rfl
      · have := ih (i + 1) (m ++ twoB (l[i]).toNat) (by omega) (by omega) (by rw [List.length_append, hm]; show 2 * i + 2 = _; omega)
        have e : allN (l[i] :: l.drop (i + 1)) ↔ allN (l.drop (i + 1)) := ⟨fun h a ha => h a (List.mem_cons_of_mem _ ha), fun h a ha => by rcases List.mem_cons.1 ha with rfl | ha; exact hok; exact h a ha⟩
        simp only [e, putAll]
        rw [List.append_assoc] at this
        exact this
    · refine Ev.step (f := fun _ => some (B [], false)) (fun k => ?_) ?_
      · simp only [twin_PutAll.l0]
        rw [if_pos (by omega), if_pos (by omega), if_pos (by omega), rd_get l i hlt, twin_Put_is _ hwi.1 hwi.2, if_neg hok, Option.bind_some, if_neg (by simp)]
        rfl
      · rw [if_neg (fun h => hok (h _ List.mem_cons_self))]
        exact Ev.now _
theorem twin_PutAll_is (l : List Int) (hl : l.length ≤ 1099511627776) (hw : ∀ a ∈ l, -9223372036854775808 ≤ a ∧ a ≤ 9223372036854775807) :
    Ev (fun k => twin_PutAll.f k l) (if allN l then (B (putAll l), true) else (B [], false)) := by
  have := putAll_loop l hl hw l.length 0 [] (by omega) (by omega) rfl
  refine Ev.congr (fun k => ?_) (by simpa using this)
  unfold twin_PutAll.f
  have ew : wrap64 (2 * (l.length : Int)) = 2 * (l.length : Int) := w_id (by omega) (by omega)
  rw [ew, if_pos (by omega), if_pos (by omega)]
  rfl
end Go.Proofs.Ytcdklefgnecjmaa.Base

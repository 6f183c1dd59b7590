/- Numbers come back of their bytes, and bytes of their numbers: plain facts on lists. -/
import Derived.Test.YtcdklefgnecjmaaP0
import Derived.Test.YtcdklefgnecjmaaP2
import Derived.Test.YtcdklefgnecjmaaTwinPut
import Derived.Test.YtcdklefgnecjmaaTwinGetAll
namespace Go.Proofs.Ytcdklefgnecjmaa.Base
open Go.RowKit Go.Proofs.YtcdklefgnecjmaaW.PrintWords Go.Proofs.YtcdklefgnecjmaaW.PrintLast Go.Proofs.YtcdklefgnecjmaaW.PrintMore Go.Proofs.Ytcdklefgnecjmaa.P
set_option linter.unusedVariables false
set_option linter.unusedSimpArgs false

theorem putAll_cat (a b : List Int) : putAll (a ++ b) = putAll a ++ putAll b := by
  induction a with
  | nil => rfl
  | cons x a ih => simp [putAll, ih]
theorem allN_cat (a b : List Int) : allN (a ++ b) ↔ allN a ∧ allN b := by
  unfold allN
  constructor
  · exact fun h => ⟨fun x hx => h x (List.mem_append_left _ hx), fun x hx => h x (List.mem_append_right _ hx)⟩
  · rintro ⟨h1, h2⟩ x hx
    rcases List.mem_append.1 hx with hx | hx
    · exact h1 x hx
    · exact h2 x hx
theorem twoB_val (n : Nat) (h : n < 65536) : (UInt8.ofNat (n / 256)).toNat = n / 256 ∧ (UInt8.ofNat (n % 256)).toNat = n % 256 := by
  rw [UInt8.toNat_ofNat', UInt8.toNat_ofNat']
  omega
theorem getAll_putAll (l : List Int) (h : allN l) : getAll (putAll l) = l := by
  induction l with
  | nil => rfl
  | cons a l ih =>
    obtain ⟨h0, h1⟩ := h a List.mem_cons_self
    have hv := twoB_val a.toNat (by omega)
    show getAll (UInt8.ofNat (a.toNat / 256) :: UInt8.ofNat (a.toNat % 256) :: putAll l) = _
    rw [getAll, ih (fun x hx => h x (List.mem_cons_of_mem _ hx)), hv.1, hv.2]
    congr 1
    omega
theorem putAll_getAll (n : Nat) : ∀ s : List UInt8, s.length ≤ n → s.length % 2 = 0 → putAll (getAll s) = s ∧ allN (getAll s) := by
  induction n with
  | zero => intro s h _; obtain rfl : s = [] := List.length_eq_zero_iff.1 (by omega); exact ⟨rfl, fun a ha => by simp [getAll] at ha⟩
  | succ n ih =>
    intro s h he
    match s, h, he with
    | [], _, _ => exact ⟨rfl, fun a ha => by simp [getAll] at ha⟩
    | [_], _, he => simp at he
    | a :: b :: r, h, he =>
      obtain ⟨i1, i2⟩ := ih r (by simp at h; omega) (by simp at he; omega)
      have ha := byte_lt a
      have hb := byte_lt b
      constructor
      · rw [getAll, putAll, i1, Int.toNat_natCast]
        unfold twoB
        rw [show (256 * a.toNat + b.toNat) / 256 = a.toNat by omega, show (256 * a.toNat + b.toNat) % 256 = b.toNat by omega]
        simp
      · intro x hx
        rw [getAll] at hx
        rcases List.mem_cons.1 hx with rfl | hx
        · exact ⟨by omega, by omega⟩
        · exact i2 x hx
theorem twin_Get_any (l : List UInt8) (h : l.length ≤ 1099511627776) (i : Int) : twin_Get.f (B l) i = some (tGet l i) := by
  by_cases h1 : i ≤ 4611686018427387904
  · exact twin_Get_is l (by omega) i h1
  · unfold twin_Get.f tGet
    rw [B_size, if_neg (by omega), w_id (by omega) (by omega), if_pos (by omega), if_neg (by omega)]
end Go.Proofs.Ytcdklefgnecjmaa.Base

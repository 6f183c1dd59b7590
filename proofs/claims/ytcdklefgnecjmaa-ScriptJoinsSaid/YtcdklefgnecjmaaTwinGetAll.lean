/- What twin.GetAll computes. -/
import Derived.Test.YtcdklefgnecjmaaP0
import Derived.Test.YtcdklefgnecjmaaP2
import Derived.Test.YtcdklefgnecjmaaGet
namespace Go.Proofs.Ytcdklefgnecjmaa.Base
open Go.RowKit Go.Proofs.YtcdklefgnecjmaaW.PrintWords Go.Proofs.YtcdklefgnecjmaaW.PrintLast Go.Proofs.YtcdklefgnecjmaaW.PrintMore Go.Proofs.Ytcdklefgnecjmaa.P
set_option linter.unusedVariables false
set_option linter.unusedSimpArgs false

/-- The numbers of all bytes. -/
def getAll : List UInt8 → List Int
  | a :: b :: r => ((256 * a.toNat + b.toNat : Nat) : Int) :: getAll r
  | _ => []
theorem getAll_len (n : Nat) : ∀ s : List UInt8, s.length ≤ n → (getAll s).length = s.length / 2 := by
  induction n with
  | zero => intro s h; obtain rfl : s = [] := List.length_eq_zero_iff.1 (by omega); rfl
  | succ n ih =>
    intro s h
    match s with
    | [] => simp [getAll]
    | [_] => simp [getAll]
    | a :: b :: r =>
      have := ih r (by simp at h; omega)
      simp only [getAll, List.length_cons, this]
      omega
theorem getAll_get (i : Nat) : ∀ s : List UInt8, 2 * i + 1 < s.length → (getAll s)[i]? = some ((g2 s (2 * i) : Nat) : Int) := by
  induction i with
  | zero =>
    intro s h
    match s, h with
    | a :: b :: r, _ => simp [getAll, g2, b1]
  | succ i ih =>
    intro s h
    match s, h with
    | a :: b :: r, h =>
      have := ih r (by simp at h; omega)
      rw [getAll, List.getElem?_cons_succ, this]
      unfold g2 b1
      rw [show 2 * (i + 1) = 2 * i + 1 + 1 by omega, List.getElem?_cons_succ, List.getElem?_cons_succ, List.getElem?_cons_succ, List.getElem?_cons_succ]
theorem and_one (n : Nat) (h : n ≤ 4611686018427387903) : Go.bits .and .i64 (n : Int) 1 = ((n % 2 : Nat) : Int) := by
  have := bits_mask .i64 62 (by decide) (fun m h0 h1 => by rw [IntKind.wrap_i64]; omega) 1 (by decide) (n : Int) (by omega) (by omega)
  have e : ((2 : Int) ^ 1 - 1) = 1 := by decide
  rw [e] at this
  rw [this]
  omega
theorem set_mid (l : List Int) (i n : Nat) (hi : i < n) (hl : i ≤ l.length) (v : Int) : (l.take i ++ List.replicate (n - i) (0 : Int)).set i v = (l.take i ++ [v]) ++ List.replicate (n - (i + 1)) 0 := by
  rw [List.set_append_right _ _ (by rw [List.length_take]; omega), List.length_take, Nat.min_eq_left hl, Nat.sub_self]
  obtain ⟨m, hm⟩ : ∃ m, n - i = m + 1 := ⟨n - i - 1, by omega⟩
  rw [hm, List.replicate_succ, List.set_cons_zero, show n - (i + 1) = m by omega]
  simp
theorem getAll_loop (s : List UInt8) (hs : s.length ≤ 1099511627776) (d : Nat) : ∀ i : Nat, i ≤ s.length / 2 → s.length / 2 - i = d →
    Ev (fun k => twin_GetAll.l0 k (B s) ((getAll s).take i ++ List.replicate (s.length / 2 - i) (0 : Int)) ((s.length / 2 : Nat) : Int) (i : Int)) (getAll s, true) := by
  have hlen := getAll_len s.length s (Nat.le_refl _)
  induction d with
  | zero =>
    intro i hi hd
    have : i = s.length / 2 := by omega
    refine Ev.step (f := fun _ => some (getAll s, true)) (fun k => ?_) (Ev.now _)
    simp only [twin_GetAll.l0]
    rw [if_neg (by omega), hd, this, List.replicate_zero, List.append_nil, List.take_of_length_le (by omega)]
  | succ d ih =>
    intro i hi hd
    have hg := getAll_get i s (by omega)
    refine Ev.step (f := fun k => twin_GetAll.l0 k (B s) ((getAll s).take (i + 1) ++ List.replicate (s.length / 2 - (i + 1)) (0 : Int)) ((s.length / 2 : Nat) : Int) ((i + 1 : Nat) : Int)) (fun k => ?_) (ih (i + 1) (by omega) (by omega))
    simp only [twin_GetAll.l0]
    have e2 : wrap64 (2 * (i : Int)) = ((2 * i : Nat) : Int) := by rw [w_id (by omega) (by omega)]; omega
    rw [if_pos (by omega), e2, twin_Get_is s (by omega) _ (by omega)]
    have et : tGet s ((2 * i : Nat) : Int) = (((g2 s (2 * i) : Nat) : Int), true) := by unfold tGet; rw [if_pos (by omega), Int.toNat_natCast]
    rw [et, Option.bind_some, if_pos (by omega), if_pos (by rw [List.length_append, List.length_take, List.length_replicate]; omega), Int.toNat_natCast, set_mid _ _ _ (by omega) (by omega)]
    have ei : (getAll s).take (i + 1) = (getAll s).take i ++ [((g2 s (2 * i) : Nat) : Int)] := by
      rw [List.take_add_one, hg]; rfl
    rw [ei, w_id (by omega) (by omega)]
    rfl
theorem twin_GetAll_is (s : List UInt8) (hs : s.length ≤ 1099511627776) : Ev (fun k => twin_GetAll.f k (B s)) (if s.length % 2 = 0 then (getAll s, true) else ([], false)) := by
  by_cases h : s.length % 2 = 0
  · rw [if_pos h]
    refine Ev.congr (fun k => ?_) (getAll_loop s hs (s.length / 2) 0 (by omega) (by omega))
    unfold twin_GetAll.f
    have ew : wrap64 ((s.length : Int) / 2) = ((s.length / 2 : Nat) : Int) := by rw [w_id (by omega) (by omega)]; omega
    rw [B_size, and_one _ (by omega), if_neg (by omega), ew, if_pos (by omega), Int.toNat_natCast, if_pos (by omega), Option.bind_some, List.length_replicate]
    rfl
  · rw [if_neg h]
    refine Ev.congr (fun k => ?_) (Ev.now _)
    unfold twin_GetAll.f
    rw [B_size, and_one _ (by omega), if_pos (by omega)]
end Go.Proofs.Ytcdklefgnecjmaa.Base

/- A frame's bytes by the reference, and that they are read back. -/
import Derived.Test.YtbjbhhamjpbgnaaP0
import Derived.Test.YtbjbhhamjpbgnaaP8
import Derived.Test.YtbjbhhamjpbgnaaStream
namespace Go.Proofs.Ytbjbhhamjpbgnaa.Base
open Go.RowKit Go.Proofs.YtbjbhhamjpbgnaaW.PrintWords Go.Proofs.YtbjbhhamjpbgnaaW.PrintLast Go.Proofs.YtbjbhhamjpbgnaaW.PrintMore Go.Proofs.Ytbjbhhamjpbgnaa.P
set_option linter.unusedVariables false
set_option linter.unusedSimpArgs false

/-- A number's two bytes. -/
def two (n : Nat) : List UInt8 := [UInt8.ofNat (n / 256), UInt8.ofNat (n % 256)]
theorem two_val (n : Nat) (h : n < 65536) : (UInt8.ofNat (n / 256)).toNat = n / 256 ∧ (UInt8.ofNat (n % 256)).toNat = n % 256 := by
  rw [UInt8.toNat_ofNat', UInt8.toNat_ofNat']
  omega
theorem ref01_Put_is (a : Int) : ref01_Put.f a = some (if 0 ≤ a ∧ a ≤ 65535 then (B (two a.toNat), true) else (B [], false)) := by
  unfold ref01_Put.f
  by_cases h0 : a < 0
  · rw [if_pos h0, if_neg (by omega)]; rfl
  · by_cases h1 : a > 65535
    · rw [if_neg h0, if_pos h1, if_neg (by omega)]; rfl
    · rw [if_neg h0, if_neg h1, if_pos (by omega), B_nums]
      congr 3
      obtain ⟨n, rfl⟩ := Int.eq_ofNat_of_zero_le (by omega : 0 ≤ a)
      have e1 : wrap64 (Int.tdiv (n : Int) 256) % 256 = ((n / 256 : Nat) : Int) := by rw [Int.tdiv_eq_ediv_of_nonneg (by omega), w_id (by omega) (by omega)]; omega
      have e2 : Int.tmod (n : Int) 256 % 256 = ((n % 256 : Nat) : Int) := by rw [Int.tmod_eq_emod_of_nonneg (by omega)]; omega
      simp only [List.map_cons, List.map_nil, e1, e2, Int.toNat_natCast, two]
theorem ref01_Of_is (a : Int) (h0 : 0 ≤ a) (h1 : a ≤ 65535) : ref01_Of.f a = some (B (two a.toNat)) := by
  unfold ref01_Of.f
  rw [ref01_Put_is, if_pos ⟨h0, h1⟩]
  rfl
/-- May a frame be? -/
def okF (i u : Int) (p : List UInt8) : Prop := 0 ≤ i ∧ i ≤ 65535 ∧ 0 ≤ u ∧ u ≤ 255 ∧ 1 ≤ p.length ∧ p.length ≤ 253
instance (i u : Int) (p : List UInt8) : Decidable (okF i u p) := inferInstanceAs (Decidable (_ ∧ _))
theorem ref08_Right_is (i u : Int) (p : List UInt8) : ref08_Right.f i u (B p) = some (decide (okF i u p)) := by
  unfold ref08_Right.f
  rw [B_size]
  by_cases h : okF i u p
  · obtain ⟨h1, h2, h3, h4, h5, h6⟩ := h
    rw [if_pos h1, if_pos h2, if_pos h3, if_pos h4, if_pos (by omega), decide_eq_true (show okF i u p from ⟨h1, h2, h3, h4, h5, h6⟩), decide_eq_true (show (p.length : Int) ≤ 253 by omega)]
  · rw [decide_eq_false h]
    by_cases c1 : i ≥ 0
    · by_cases c2 : i ≤ 65535
      · by_cases c3 : u ≥ 0
        · by_cases c4 : u ≤ 255
          · by_cases c5 : (p.length : Int) ≥ 1
            · rw [if_pos c1, if_pos c2, if_pos c3, if_pos c4, if_pos c5, decide_eq_false (fun c6 => h ⟨c1, c2, c3, c4, by omega, by omega⟩)]
            · rw [if_pos c1, if_pos c2, if_pos c3, if_pos c4, if_neg c5]
          · rw [if_pos c1, if_pos c2, if_pos c3, if_neg c4]
        · rw [if_pos c1, if_pos c2, if_neg c3]
      · rw [if_pos c1, if_neg c2]
    · rw [if_neg c1]
/-- A frame's bytes. -/
def putF (i u : Int) (p : List UInt8) : List UInt8 := two i.toNat ++ [0, 0] ++ two (p.length + 1) ++ [UInt8.ofNat u.toNat] ++ p
theorem putF_len (i u : Int) (p : List UInt8) : (putF i u p).length = p.length + 7 := by simp [putF, two]
theorem ref08_Put_is (i u : Int) (p : List UInt8) : ref08_Put.f i u (B p) = some (if okF i u p then (B (putF i u p), true) else (B [], false)) := by
  unfold ref08_Put.f
  rw [ref08_Right_is]
  rw [Option.bind_some]
  by_cases h : okF i u p
  · rw [decide_eq_true h, if_pos rfl, if_pos h]
    obtain ⟨h1, h2, h3, h4, h5, h6⟩ := h
    rw [ref01_Of_is i h1 h2]
    rw [Option.bind_some]
    have hl2 : ∀ n, (B (two n)).size = 2 := fun n => by rw [B_size]; rfl
    have hp : (B p).size = p.length := B_size p
    have ew : wrap64 (1 + (p.length : Int)) = ((p.length + 1 : Nat) : Int) := by rw [w_id (by omega) (by omega)]; omega
    rw [hl2, if_pos (by omega), hp, ew, ref01_Of_is _ (by omega) (by omega)]
    rw [Option.bind_some, Int.toNat_natCast]
    have hu : (u % 256).toNat = u.toNat := by omega
    have en : strOfNums [u % 256] = B [UInt8.ofNat u.toNat] := by rw [B_nums]; simp [hu]
    have ez : (⟨#[0, 0]⟩ : ByteArray) = B [0, 0] := rfl
    have e4 : ∀ (a b c d : List UInt8), ((B a ++ B [0, 0]) ++ B b ++ B c) ++ B d = B (a ++ [0, 0] ++ b ++ c ++ d) := fun a b c d => by rw [B_cat, B_cat, B_cat, B_cat]
    have e5 : (B [UInt8.ofNat u.toNat]).size = 1 := by rw [B_size]; rfl
    rw [Option.bind_some, en, ez, e4, e5, hl2, if_pos (by omega), if_pos (by omega), if_pos (by omega)]
    unfold putF
    rfl
  · rw [decide_eq_false h, if_neg (by simp), if_neg h]
    rfl
theorem put_head {i u : Int} {p : List UInt8} (h : okF i u p) (rest : List UInt8) : g2 (putF i u p ++ rest) 0 = i.toNat ∧ g2 (putF i u p ++ rest) 2 = 0 ∧ g2 (putF i u p ++ rest) 4 = p.length + 1 ∧ b1 (putF i u p ++ rest) 6 = u.toNat := by
  obtain ⟨h1, h2, h3, h4, h5, h6⟩ := h
  have t1 := two_val i.toNat (by omega)
  have t2 := two_val (p.length + 1) (by omega)
  have t3 : (UInt8.ofNat u.toNat).toNat = u.toNat := by rw [UInt8.toNat_ofNat']; omega
  refine ⟨?_, ?_, ?_, ?_⟩
  · simp only [g2, b1, putF, two, List.cons_append, List.nil_append, List.getElem?_cons_zero, List.getElem?_cons_succ, Nat.reduceAdd, Option.getD_some, t1]
    omega
  · simp [g2, b1, putF, two]
  · simp only [g2, b1, putF, two, List.cons_append, List.nil_append, List.getElem?_cons_zero, List.getElem?_cons_succ, Nat.reduceAdd, Option.getD_some, t2]
    omega
  · simp only [b1, putF, two, List.cons_append, List.nil_append, List.getElem?_cons_zero, List.getElem?_cons_succ, Option.getD_some, t3]
theorem put_good {i u : Int} {p : List UInt8} (h : okF i u p) (rest : List UInt8) : ¬ badHead (putF i u p ++ rest) := by
  obtain ⟨e1, e2, e3, e4⟩ := put_head h rest
  obtain ⟨h1, h2, h3, h4, h5, h6⟩ := h
  unfold badHead
  omega
theorem put_frame {i u : Int} {p : List UInt8} (h : okF i u p) : frameOf (putF i u p) = ⟨i, u, B p⟩ := by
  have := put_head h []
  rw [List.append_nil] at this
  obtain ⟨e1, e2, e3, e4⟩ := this
  obtain ⟨h1, h2, h3, h4, h5, h6⟩ := h
  unfold frameOf
  rw [e1, e4, show ((i.toNat : Nat) : Int) = i by omega, show ((u.toNat : Nat) : Int) = u by omega]
  rfl
/-- A frame's bytes, and more, are that frame, and what more makes. -/
theorem run_put {i u : Int} {p : List UInt8} (h : okF i u p) (rest : List UInt8) : run (putF i u p ++ rest) = (⟨i, u, B p⟩ :: (run rest).1, (run rest).2) := by
  obtain ⟨e1, e2, e3, e4⟩ := put_head h rest
  have hl := putF_len i u p
  have hn : g2 (putF i u p ++ rest) 4 + 6 = (putF i u p).length := by rw [e3, hl]
  rw [run_step (by rw [List.length_append]; omega) (put_good h rest) (by rw [hn, List.length_append]; omega), hn]
  rw [List.take_left, List.drop_left, put_frame h]
/-- A frame's beginning waits. -/
theorem put_part {i u : Int} {p : List UInt8} (h : okF i u p) {c : Nat} (hc : c < (putF i u p).length) : Pending ((putF i u p).take c) := by
  by_cases h6 : c < 6
  · exact Or.inl (by rw [List.length_take]; omega)
  · right
    have hg := put_good h []
    have hh := put_head h []
    rw [List.append_nil] at hg hh
    have hl := putF_len i u p
    obtain ⟨q1, q2, q3⟩ := head_take (n := c) (by omega) hg (by omega)
    exact ⟨q2, by rw [q3, hh.2.2.1, List.length_take]; omega⟩
end Go.Proofs.Ytbjbhhamjpbgnaa.Base

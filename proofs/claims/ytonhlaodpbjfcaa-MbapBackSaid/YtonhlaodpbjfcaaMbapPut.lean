/- What mbap.Right and mbap.Put compute. -/
import Derived.Test.YtonhlaodpbjfcaaP0
import Derived.Test.YtonhlaodpbjfcaaP2
import Derived.Test.YtonhlaodpbjfcaaTwinPut
import Derived.Test.YtonhlaodpbjfcaaRefPutA
namespace Go.Proofs.Ytonhlaodpbjfcaa.Base
open Go.RowKit Go.Proofs.YtonhlaodpbjfcaaW.PrintWords Go.Proofs.YtonhlaodpbjfcaaW.PrintLast Go.Proofs.YtonhlaodpbjfcaaW.PrintMore Go.Proofs.Ytonhlaodpbjfcaa.P
set_option linter.unusedVariables false
set_option linter.unusedSimpArgs false

theorem u64_is (n : Int) : IntKind.u64.wrap n = n % 18446744073709551616 := by simp [IntKind.wrap, IntKind.bits, IntKind.signed]
theorem mbap_Right_is (i u : Int) (p : List UInt8) (hi : -9223372036854775808 ≤ i ∧ i ≤ 9223372036854775807) (hu : -9223372036854775808 ≤ u ∧ u ≤ 9223372036854775807) : mbap_Right.f i u (B p) = some (decide (okF i u p)) := by
  unfold mbap_Right.f
  rw [B_size, u64_is, u64_is]
  by_cases h : okF i u p
  · obtain ⟨h1, h2, h3, h4, h5, h6⟩ := h
    rw [if_pos (by omega), if_pos (by omega), if_pos (by omega), decide_eq_true (show okF i u p from ⟨h1, h2, h3, h4, h5, h6⟩), decide_eq_true (show (p.length : Int) ≤ 253 by omega)]
  · rw [decide_eq_false h]
    by_cases c1 : i % 18446744073709551616 ≤ 65535
    · by_cases c2 : u % 18446744073709551616 ≤ 255
      · by_cases c3 : (p.length : Int) > 0
        · rw [if_pos c1, if_pos c2, if_pos c3, decide_eq_false (fun c6 => h ⟨by omega, by omega, by omega, by omega, by omega, by omega⟩)]
        · rw [if_pos c1, if_pos c2, if_neg c3]
      · rw [if_pos c1, if_neg c2]
    · rw [if_neg c1]
theorem mbap_Put_is (i u : Int) (p : List UInt8) (hi : -9223372036854775808 ≤ i ∧ i ≤ 9223372036854775807) (hu : -9223372036854775808 ≤ u ∧ u ≤ 9223372036854775807) :
    Ev (fun k => mbap_Put.f k i u (B p)) (if okF i u p then (B (putF i u p), true) else (B [], false)) := by
  by_cases h : okF i u p
  · rw [if_pos h]
    have h' := h
    obtain ⟨h1, h2, h3, h4, h5, h6⟩ := h'
    have ew : wrap64 ((p.length : Int) + 1) = ((p.length + 1 : Nat) : Int) := by rw [w_id (by omega) (by omega)]; omega
    have hall : allN [i, 0, ((p.length + 1 : Nat) : Int)] := by
      intro a ha
      simp only [List.mem_cons, List.not_mem_nil, or_false] at ha
      rcases ha with rfl | rfl | rfl
      · exact ⟨h1, h2⟩
      · exact ⟨by omega, by omega⟩
      · exact ⟨by omega, by omega⟩
    have hp := twin_PutAll_is [i, 0, ((p.length + 1 : Nat) : Int)] (by simp) (fun a ha => by have := hall a ha; unfold okN at this; omega)
    rw [if_pos hall] at hp
    refine Ev.congr (f := fun k => (twin_PutAll.f k [i, 0, ((p.length + 1 : Nat) : Int)]).bind fun bt119 => if bt119.1.size + 1 ≤ 9223372036854775807 then (if bt119.1.size + 1 + p.length ≤ 9223372036854775807 then (some ((bt119.1 ++ (B [UInt8.ofNat u.toNat])) ++ B p, true)) else (none)) else (none)) (fun k => ?_) ?_
    · unfold mbap_Put.f
      rw [mbap_Right_is i u p hi hu, Option.bind_some, decide_eq_true h, if_pos rfl, B_size, ew]
      have hu' : (u % 256).toNat = u.toNat := by omega
      have en : strOfNums [u % 256] = B [UInt8.ofNat u.toNat] := by rw [B_nums]; simp [hu']
      have e5 : (B [UInt8.ofNat u.toNat]).size = 1 := by rw [B_size]; rfl
      congr 1
      funext bt
      rw [Option.bind_some, en, e5]
    · refine Ev.bind hp ?_
      have hl := putAll_len [i, 0, ((p.length + 1 : Nat) : Int)]
      refine Ev.congr (f := fun _ => some (B (putF i u p), true)) (fun k => ?_) (Ev.now _)
      show (if (B (putAll [i, 0, ((p.length + 1 : Nat) : Int)])).size + 1 ≤ 9223372036854775807 then (if (B (putAll [i, 0, ((p.length + 1 : Nat) : Int)])).size + 1 + p.length ≤ 9223372036854775807 then (some ((B (putAll [i, 0, ((p.length + 1 : Nat) : Int)]) ++ (B [UInt8.ofNat u.toNat])) ++ B p, true)) else (none)) else (none)) = _
      have hl3 : (putAll [i, 0, ((p.length + 1 : Nat) : Int)]).length = 6 := hl
      rw [B_size, hl3, if_pos (show 6 + 1 ≤ 9223372036854775807 by omega), if_pos (show 6 + 1 + p.length ≤ 9223372036854775807 by omega), B_cat, B_cat]
      have e : putAll [i, 0, ((p.length + 1 : Nat) : Int)] ++ [UInt8.ofNat u.toNat] ++ p = putF i u p := by
        simp [putAll, putF, twoB, two]
      rw [e]
  · rw [if_neg h]
    refine Ev.congr (f := fun _ => some (B [], false)) (fun k => ?_) (Ev.now _)
    unfold mbap_Put.f
    rw [mbap_Right_is i u p hi hu, Option.bind_some, decide_eq_false h, if_neg (by simp)]
    rfl
/-- A frame's bytes are got back. -/
theorem get_put {i u : Int} {p : List UInt8} (h : okF i u p) : get (putF i u p) = (i, u, B p, 0) ∧ need (putF i u p) = (((putF i u p).length : Int), 0) := by
  have hg := put_good h []
  have hh := put_head h []
  rw [List.append_nil] at hg hh
  obtain ⟨e1, e2, e3, e4⟩ := hh
  have hl := putF_len i u p
  obtain ⟨h1, h2, h3, h4, h5, h6⟩ := h
  have hn : need (putF i u p) = (((putF i u p).length : Int), 0) := by
    unfold need
    rw [if_neg (by omega), if_neg hg, e3, hl]
  refine ⟨?_, hn⟩
  unfold get
  rw [hn, if_pos ⟨rfl, by show ((putF i u p).length : Int) ≠ 0; omega, rfl⟩, e1, e4, show ((i.toNat : Nat) : Int) = i by omega, show ((u.toNat : Nat) : Int) = u by omega]
  rfl
/-- Bytes that are a frame's are its. -/
theorem put_get {s : List UInt8} (h1 : (need s).2 = 0) (h2 : (need s).1 ≠ 0) (h3 : (need s).1 = s.length) :
    okF ((g2 s 0 : Nat) : Int) ((b1 s 6 : Nat) : Int) (s.drop 7) ∧ putF ((g2 s 0 : Nat) : Int) ((b1 s 6 : Nat) : Int) (s.drop 7) = s := by
  obtain ⟨g1, hb, g3, g4, g5⟩ := need_ge h1 h2
  have hl : s.length = g2 s 4 + 6 := by omega
  have hg0 := g2_lt s 0
  have hb6 := b1_lt s 6
  have hz : g2 s 2 = 0 := by unfold badHead at hb; omega
  refine ⟨⟨by omega, by omega, by omega, by omega, by rw [List.length_drop]; omega, by rw [List.length_drop]; omega⟩, ?_⟩
  match s, hl with
  | a0 :: a1 :: a2 :: a3 :: a4 :: a5 :: a6 :: r, hl =>
    have h0 := byte_lt a0; have h1 := byte_lt a1; have h2 := byte_lt a2; have h3 := byte_lt a3; have h4 := byte_lt a4; have h5 := byte_lt a5; have h6 := byte_lt a6
    have e0 : g2 (a0 :: a1 :: a2 :: a3 :: a4 :: a5 :: a6 :: r) 0 = 256 * a0.toNat + a1.toNat := rfl
    have e2 : g2 (a0 :: a1 :: a2 :: a3 :: a4 :: a5 :: a6 :: r) 2 = 256 * a2.toNat + a3.toNat := rfl
    have e4 : g2 (a0 :: a1 :: a2 :: a3 :: a4 :: a5 :: a6 :: r) 4 = 256 * a4.toNat + a5.toNat := rfl
    have e6 : b1 (a0 :: a1 :: a2 :: a3 :: a4 :: a5 :: a6 :: r) 6 = a6.toNat := rfl
    have ed : (a0 :: a1 :: a2 :: a3 :: a4 :: a5 :: a6 :: r).drop 7 = r := rfl
    rw [e4] at hl
    rw [e2] at hz
    rw [e0, e6, ed]
    have hr : r.length + 1 = 256 * a4.toNat + a5.toNat := by simp at hl; omega
    have z2 : a2 = 0 := UInt8.toNat_inj.1 (by show a2.toNat = 0; omega)
    have z3 : a3 = 0 := UInt8.toNat_inj.1 (by show a3.toNat = 0; omega)
    unfold putF two
    rw [hr, Int.toNat_natCast, Int.toNat_natCast, show (256 * a0.toNat + a1.toNat) / 256 = a0.toNat by omega, show (256 * a0.toNat + a1.toNat) % 256 = a1.toNat by omega,
      show (256 * a4.toNat + a5.toNat) / 256 = a4.toNat by omega, show (256 * a4.toNat + a5.toNat) % 256 = a5.toNat by omega, z2, z3]
    simp
  | [], hl => simp at g1
  | [_], hl => simp at g1
  | [_, _], hl => simp at g1
  | [_, _, _], hl => simp at g1
  | [_, _, _, _], hl => simp at g1
  | [_, _, _, _, _], hl => simp at g1
  | [_, _, _, _, _, _], hl => simp at hl; omega
/-- The first six bytes tell. -/
theorem need_first {l : List UInt8} (h : 6 ≤ l.length) : need (l.take 6) = need l := by
  have e4 : g2 (l.take 6) 4 = g2 l 4 := by unfold g2 b1; rw [List.getElem?_take_of_lt (by omega), List.getElem?_take_of_lt (by omega)]
  have e2 : g2 (l.take 6) 2 = g2 l 2 := by unfold g2 b1; rw [List.getElem?_take_of_lt (by omega), List.getElem?_take_of_lt (by omega)]
  have hb : badHead (l.take 6) ↔ badHead l := by unfold badHead; rw [e4, e2]
  unfold need
  rw [if_neg (show ¬ (l.take 6).length < 6 by rw [List.length_take]; omega), if_neg (show ¬ l.length < 6 by omega), e4]
  by_cases h : badHead l
  · rw [if_pos h, if_pos (hb.2 h)]
  · rw [if_neg h, if_neg (fun hh => h (hb.1 hh))]
end Go.Proofs.Ytonhlaodpbjfcaa.Base

/- Strings as lists of bytes, and small facts on whole numbers: plain Lean, no program in sight. -/
import Derived.Test.YtfapfpkijeaapaaP0
import Derived.Lib.Strings
import Derived.OpenShut
namespace Go.Proofs.Ytfapfpkijeaapaa.Base
open Go.RowKit Go.Proofs.YtfapfpkijeaapaaW.PrintWords Go.Proofs.YtfapfpkijeaapaaW.PrintLast Go.Proofs.YtfapfpkijeaapaaW.PrintMore Go.Proofs.Ytfapfpkijeaapaa.P
set_option linter.unusedVariables false
set_option linter.unusedSimpArgs false

/-- The string of bytes. -/
def B (l : List UInt8) : ByteArray := ⟨l.toArray⟩
theorem ofB (s : ByteArray) : ∃ l, s = B l := ⟨s.data.toList, by simp [B]⟩
theorem B_size (l : List UInt8) : (B l).size = l.length := by simp [B, ByteArray.size]
theorem B_list (l : List UInt8) : (B l).toList = l := by rw [Lib.toList_data]; simp [B]
theorem B_nil : (⟨#[]⟩ : ByteArray) = B [] := rfl
theorem B_inj {l m : List UInt8} (h : B l = B m) : l = m := by
  have := congrArg ByteArray.toList h
  rwa [B_list, B_list] at this
theorem B_cat (l m : List UInt8) : B l ++ B m = B (l ++ m) := by
  have : (B l ++ B m).toList = l ++ m := by rw [Lib.toList_data]; simp [B]
  obtain ⟨x, hx⟩ := ofB (B l ++ B m)
  rw [hx, B_list] at this
  rw [hx, this]
theorem B_cut (l : List UInt8) (i j : Nat) : (B l).extract i j = B ((l.take j).drop i) := by
  unfold B
  rw [ByteArray.extract_mk]
  congr 1
  simp [List.drop_take]
theorem B_bt (l : List UInt8) (i : Int) : bt (B l) i = ((l[i.toNat]?.getD 0).toNat : Int) := by
  unfold bt
  by_cases h : i.toNat < l.length
  · have h' : i.toNat < (B l).size := by rw [B_size]; exact h
    rw [dif_pos h', List.getElem?_eq_getElem h]
    rfl
  · have h' : ¬ i.toNat < (B l).size := by rw [B_size]; exact h
    rw [dif_neg h', List.getElem?_eq_none (by omega)]
    rfl
theorem B_nums (xs : List Int) : strOfNums xs = B (xs.map fun n => UInt8.ofNat n.toNat) := rfl
theorem w_id {x : Int} (h1 : -9223372036854775808 ≤ x) (h2 : x ≤ 9223372036854775807) : wrap64 x = x := by unfold wrap64; omega
theorem byte_lt (b : UInt8) : b.toNat < 256 := b.toNat_lt
/-- Two bytes, the higher first, joined by 'or'. -/
theorem or_join (a b : Nat) (ha : a < 256) (hb : b < 256) : Go.bits .or .i64 ((a : Int) * 256) (b : Int) = ((256 * a + b : Nat) : Int) := by
  rw [bits_join .i64 62 (by decide) (fun n h0 h1 => by rw [IntKind.wrap_i64]; omega) 8 _ _ (by omega) (by omega) (by omega) (by omega) (by omega) (by omega)]
  omega
/-- A list's length fits. -/
theorem cut_full {α : Type} (l : List α) : l.take l.length = l := List.take_length
end Go.Proofs.Ytfapfpkijeaapaa.Base

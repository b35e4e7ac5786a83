/- Plain: a predicate that holds of every rune from 128 up, asked of runes as of bytes (Post, isLine and isName). -/
import Derived.Shelf.GgClosure.StringsIndexFunc
import Derived.Lib.MapLaws
namespace Go.Proofs.YtdfkaijeppdhaaaGreatDoor
open Go Go.RowKit

theorem decode_small (s : ByteArray) (i : Nat) (h : (s.get! i).toNat < 128) : Utf8.decode s i = ((s.get! i).toNat, 1) := by
  rw [Lib.decode_at, Lib.decodeN]; simp [h]
theorem decode_big (s : ByteArray) (i : Nat) (h : 128 ≤ (s.get! i).toNat) : 128 ≤ (Utf8.decode s i).1 := by
  rw [Lib.decode_at]
  rcases Lib.decodeN_shape (s.size - i) (s.get! i).toNat (s.get! (i + 1)).toNat (s.get! (i + 2)).toNat (s.get! (i + 3)).toNat with h' | h' | h' | h' | h'
  · omega
  · rw [h'.2.2.2.2]; exact h'.2.2.2.1
  · rw [h'.2.2.2.2.2.2]; have := h'.2.2.2.2.1; simp only; omega
  · rw [h'.2.2.2.2.2.2.2]; have := h'.2.2.2.2.2.1; simp only; omega
  · rw [h']; decide
theorem drop_get (s : ByteArray) (i : Nat) (h : i < s.size) : s.data.toList.drop i = s.get! i :: s.data.toList.drop (i + 1) := by
  have hl : i < s.data.toList.length := by simpa using h
  rw [List.drop_eq_getElem_cons hl]
  congr 1
  have h' : i < s.data.size := by simpa using h
  show s.data.toList[i] = s.data[i]!
  rw [getElem!_pos s.data i h']
  simp
/-- At a p that holds of every rune from 128 up, the runes are asked as the bytes are. -/
theorem anyFrom (p : Nat → Bool) (hp : ∀ r, 128 ≤ r → p r = true) (s : ByteArray) : ∀ (f pos : Nat), s.size ≤ pos + f →
    decide (0 ≤ Lib.idxFuncFrom p true s f pos) = (s.data.toList.drop pos).any (fun c => p c.toNat)
  | 0, pos, h => by
    have : s.data.toList.drop pos = [] := List.drop_eq_nil_of_le (by simpa using h)
    rw [this]; rfl
  | f + 1, pos, h => by
    unfold Lib.idxFuncFrom
    by_cases hs : pos < s.size
    · rw [if_pos hs, drop_get s pos hs, List.any_cons]
      by_cases hb : (s.get! pos).toNat < 128
      · rw [decode_small s pos hb]
        cases hq : p (s.get! pos).toNat with
        | true => simp
        | false => simp only [Bool.false_eq_true, if_false, Bool.false_or]; exact anyFrom p hp s f (pos + 1) (by omega)
      · rw [hp _ (decode_big s pos (by omega)), hp (s.get! pos).toNat (by omega)]; simp
    · have : s.data.toList.drop pos = [] := List.drop_eq_nil_of_le (by simpa using hs)
      rw [if_neg hs, this]; rfl
theorem any_runes (p : Nat → Bool) (hp : ∀ r, 128 ≤ r → p r = true) (s : ByteArray) :
    decide (0 ≤ Lib.idxFunc p true s) = s.data.toList.any (fun c => p c.toNat) := by
  have := anyFrom p hp s s.size 0 (by omega)
  rw [List.drop_zero] at this
  exact this
end Go.Proofs.YtdfkaijeppdhaaaGreatDoor

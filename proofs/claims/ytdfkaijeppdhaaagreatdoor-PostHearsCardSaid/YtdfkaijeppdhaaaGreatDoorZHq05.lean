/- Texts of this claim, laid together: Ed. -/
import Derived.Shelf.GgClosure.StringsIndexFunc
import Derived.Lib.MapLaws
import Derived.Test.YtdfkaijeppdhaaaGreatDoorZHq03
import Derived.Test.YtdfkaijeppdhaaaGreatDoorZHq04

/- Texts of this claim, laid together: Ec, Ed. -/

/- Plain: a predicate that holds of every rune from 128 up, asked of runes as of bytes (Post, isLine and isName). -/
namespace Go.Proofs.YtdfkaijeppdhaaaGreatDoor
open Go Go.RowKit
theorem decode_small (s : ByteArray) (i : Nat) (h : (s.get! i).toNat < 128) : Utf8.decode s i = ((s.get! i).toNat, 1) := by
  rw [Lib.decode_at, Lib.decodeN]; simp [h]
theorem decode_big (s : ByteArray) (i : Nat) (h : 128 ≤ (s.get! i).toNat) : 128 ≤ (Utf8.decode s i).1 := by
  rw [Lib.decode_at]
  rcases Lib.decodeN_shape (s.size - i) (s.get! i).toNat (s.get! (i + 1)).toNat (s.get! (i + 2)).toNat (s.get! (i + 3)).toNat with h' | h' | h' | h' | h'
  · omega
  · rw [h'.2.2.2.2]; exact h'.2.2.2.1
  · rw [h'.2.2.2.2.2.2]; have := h'.2.2.2.2.1; simp only; omega
  · rw [h'.2.2.2.2.2.2.2]; have := h'.2.2.2.2.2.1; simp only; omega
  · rw [h']; decide
theorem drop_get (s : ByteArray) (i : Nat) (h : i < s.size) : s.data.toList.drop i = s.get! i :: s.data.toList.drop (i + 1) := by
  have hl : i < s.data.toList.length := by simpa using h
  rw [List.drop_eq_getElem_cons hl]
  congr 1
  have h' : i < s.data.size := by simpa using h
  show s.data.toList[i] = s.data[i]!
  rw [getElem!_pos s.data i h']
  simp
/-- At a p that holds of every rune from 128 up, the runes are asked as the bytes are. -/
theorem anyFrom (p : Nat → Bool) (hp : ∀ r, 128 ≤ r → p r = true) (s : ByteArray) : ∀ (f pos : Nat), s.size ≤ pos + f →
    decide (0 ≤ Lib.idxFuncFrom p true s f pos) = (s.data.toList.drop pos).any (fun c => p c.toNat)
  | 0, pos, h => by
    have : s.data.toList.drop pos = [] := List.drop_eq_nil_of_le (by simpa using h)
    rw [this]; rfl
  | f + 1, pos, h => by
    unfold Lib.idxFuncFrom
    by_cases hs : pos < s.size
    · rw [if_pos hs, drop_get s pos hs, List.any_cons]
      by_cases hb : (s.get! pos).toNat < 128
      · rw [decode_small s pos hb]
        cases hq : p (s.get! pos).toNat with
        | true => simp
        | false => simp only [Bool.false_eq_true, if_false, Bool.false_or]; exact anyFrom p hp s f (pos + 1) (by omega)
      · rw [hp _ (decode_big s pos (by omega)), hp (s.get! pos).toNat (by omega)]; simp
    · have : s.data.toList.drop pos = [] := List.drop_eq_nil_of_le (by simpa using hs)
      rw [if_neg hs, this]; rfl
theorem any_runes (p : Nat → Bool) (hp : ∀ r, 128 ≤ r → p r = true) (s : ByteArray) :
    decide (0 ≤ Lib.idxFunc p true s) = s.data.toList.any (fun c => p c.toNat) := by
  have := anyFrom p hp s s.size 0 (by omega)
  rw [List.drop_zero] at this
  exact this
end Go.Proofs.YtdfkaijeppdhaaaGreatDoor
/- Contracts: isLine, isName. -/
namespace Go.Proofs.YtdfkaijeppdhaaaGreatDoor
open Go.RowKit Go.Shelf
theorem notLine_big (r : Nat) (h : 128 ≤ r) : notLine r = true := by unfold notLine; simp; omega
theorem notName_big (r : Nat) (h : 128 ≤ r) : notName r = true := by unfold notName; simp; omega
set_option maxHeartbeats 400000 in
theorem notLine_at (w : World) : PredAt Tryz.prog 115 #[] encR notLine w := fun W r _ => by
  unfold FnGives notLine
  by_cases h1 : (r : Int) < 32
  · go_enter Tryz.func115, Tryz.ntmps115
    go_wp2
    go_ret
    exact ⟨by simp [h1], 0, rfl⟩
  · by_cases h2 : 126 < (r : Int)
    · go_enter Tryz.func115, Tryz.ntmps115
      go_wp2
      go_ret
      exact ⟨by first | rfl | (simp [h1, h2]; done) | (simp; omega), 0, rfl⟩
    · go_enter Tryz.func115, Tryz.ntmps115
      go_wp2
      go_ret
      exact ⟨by first | rfl | (simp [h1, h2]; done) | (simp; omega), 0, rfl⟩
set_option maxHeartbeats 400000 in
theorem notName_at (w : World) : PredAt Tryz.prog 114 #[] encR notName w := fun W r _ => by
  unfold FnGives notName
  by_cases h1 : (r : Int) < 97
  · go_enter Tryz.func114, Tryz.ntmps114
    go_wp2
    go_ret
    exact ⟨by simp [h1], 0, rfl⟩
  · by_cases h2 : 122 < (r : Int)
    · go_enter Tryz.func114, Tryz.ntmps114
      go_wp2
      go_ret
      exact ⟨by first | rfl | (simp [h1, h2]; done) | (simp; omega), 0, rfl⟩
    · go_enter Tryz.func114, Tryz.ntmps114
      go_wp2
      go_ret
      exact ⟨by first | rfl | (simp [h1, h2]; done) | (simp; omega), 0, rfl⟩
set_option maxHeartbeats 400000 in
theorem isLine_any (s : ByteArray) (w : World) : Calls Tryz.prog 87 #[.string s] w fun e w' => e = .returned (.bool (isLineB s)) ∧ Below w.heap.size w w' := by
  have hA := Lib.hid (any_runes notLine notLine_big s)
  have hC := Tryz.strings_ContainsFunc 115 #[] (enters_of Tryz.func115 (by kernel_rfl) rfl) notLine s w (notLine_at w)
  unfold isLineB
  by_cases h1 : s.size ≤ 60
  · go_enter Tryz.func87, Tryz.ntmps87
    go_wp2_with fail
    refine hC.mono ?_
    rintro e w' ⟨rfl, hb⟩
    rw [hA.out]
    go_wp2
    go_ret
    exact ⟨by simp [h1], hb⟩
  · go_enter Tryz.func87, Tryz.ntmps87
    go_wp2
    go_ret
    exact ⟨by simp, Below.refl _ _⟩
set_option maxHeartbeats 400000 in
theorem isName_any (s : ByteArray) (w : World) : Calls Tryz.prog 86 #[.string s] w fun e w' => e = .returned (.bool (isNameB s)) ∧ Below w.heap.size w w' := by
  have hA := Lib.hid (any_runes notName notName_big s)
  have hC := Tryz.strings_ContainsFunc 114 #[] (enters_of Tryz.func114 (by kernel_rfl) rfl) notName s w (notName_at w)
  unfold isNameB
  by_cases h1 : betw 1 s.size 8 = true
  · have H1 := Lib.hid h1
    clear h1
    go_enter Tryz.func86, Tryz.ntmps86
    go_wp2_with fail
    refine (between_any _ _ _ _).mono ?_
    rintro e w' ⟨rfl, rfl⟩
    rw [H1.out]
    go_wp2_with fail
    refine hC.mono ?_
    rintro e w' ⟨rfl, hb⟩
    rw [hA.out]
    generalize hq : (s.data.toList.any fun c => notName c.toNat) = q
    have HQ := Lib.hid hq
    clear hq
    go_wp2
    go_ret
    exact ⟨by rw [H1.out, HQ.out]; first | rfl | simp, hb⟩
  · have H1 := Lib.hid (Bool.eq_false_iff.2 h1)
    clear h1
    go_enter Tryz.func86, Tryz.ntmps86
    go_wp2_with fail
    refine (between_any _ _ _ _).mono ?_
    rintro e w' ⟨rfl, rfl⟩
    rw [H1.out]
    go_wp2
    go_ret
    exact ⟨by rw [H1.out]; first | rfl | simp, Below.refl _ _⟩
end Go.Proofs.YtdfkaijeppdhaaaGreatDoor

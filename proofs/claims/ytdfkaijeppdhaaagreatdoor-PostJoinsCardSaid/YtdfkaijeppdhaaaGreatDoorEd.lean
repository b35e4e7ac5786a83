/- Contracts: isLine, isName. -/
import Derived.Test.YtdfkaijeppdhaaaGreatDoorEa
import Derived.Test.YtdfkaijeppdhaaaGreatDoorEc
import Derived.Test.YtdfkaijeppdhaaaGreatDoorShelf
namespace Go.Proofs.YtdfkaijeppdhaaaGreatDoor
open Go.RowKit Go.Shelf

theorem notLine_big (r : Nat) (h : 128 ≤ r) : notLine r = true := by unfold notLine; simp; omega
theorem notName_big (r : Nat) (h : 128 ≤ r) : notName r = true := by unfold notName; simp; omega
set_option maxHeartbeats 400000 in
theorem notLine_at (w : World) : PredAt Tryz.prog 115 #[] encR notLine w := fun W r _ => by
  unfold FnGives notLine
  by_cases h1 : (r : Int) < 32
  · go_enter Tryz.func115, Tryz.ntmps115
    go_wp2
    go_ret
    exact ⟨by simp [h1], 0, rfl⟩
  · by_cases h2 : 126 < (r : Int)
    · go_enter Tryz.func115, Tryz.ntmps115
      go_wp2
      go_ret
      exact ⟨by first | rfl | (simp [h1, h2]; done) | (simp; omega), 0, rfl⟩
    · go_enter Tryz.func115, Tryz.ntmps115
      go_wp2
      go_ret
      exact ⟨by first | rfl | (simp [h1, h2]; done) | (simp; omega), 0, rfl⟩
set_option maxHeartbeats 400000 in
theorem notName_at (w : World) : PredAt Tryz.prog 114 #[] encR notName w := fun W r _ => by
  unfold FnGives notName
  by_cases h1 : (r : Int) < 97
  · go_enter Tryz.func114, Tryz.ntmps114
    go_wp2
    go_ret
    exact ⟨by simp [h1], 0, rfl⟩
  · by_cases h2 : 122 < (r : Int)
    · go_enter Tryz.func114, Tryz.ntmps114
      go_wp2
      go_ret
      exact ⟨by first | rfl | (simp [h1, h2]; done) | (simp; omega), 0, rfl⟩
    · go_enter Tryz.func114, Tryz.ntmps114
      go_wp2
      go_ret
      exact ⟨by first | rfl | (simp [h1, h2]; done) | (simp; omega), 0, rfl⟩
set_option maxHeartbeats 400000 in
theorem isLine_any (s : ByteArray) (w : World) : Calls Tryz.prog 87 #[.string s] w fun e w' => e = .returned (.bool (isLineB s)) ∧ Below w.heap.size w w' := by
  have hA := Lib.hid (any_runes notLine notLine_big s)
  have hC := Tryz.strings_ContainsFunc 115 #[] (enters_of Tryz.func115 (by kernel_rfl) rfl) notLine s w (notLine_at w)
  unfold isLineB
  by_cases h1 : s.size ≤ 60
  · go_enter Tryz.func87, Tryz.ntmps87
    go_wp2_with fail
    refine hC.mono ?_
    rintro e w' ⟨rfl, hb⟩
    rw [hA.out]
    go_wp2
    go_ret
    exact ⟨by simp [h1], hb⟩
  · go_enter Tryz.func87, Tryz.ntmps87
    go_wp2
    go_ret
    exact ⟨by simp, Below.refl _ _⟩
set_option maxHeartbeats 400000 in
theorem isName_any (s : ByteArray) (w : World) : Calls Tryz.prog 86 #[.string s] w fun e w' => e = .returned (.bool (isNameB s)) ∧ Below w.heap.size w w' := by
  have hA := Lib.hid (any_runes notName notName_big s)
  have hC := Tryz.strings_ContainsFunc 114 #[] (enters_of Tryz.func114 (by kernel_rfl) rfl) notName s w (notName_at w)
  unfold isNameB
  by_cases h1 : betw 1 s.size 8 = true
  · have H1 := Lib.hid h1
    clear h1
    go_enter Tryz.func86, Tryz.ntmps86
    go_wp2_with fail
    refine (between_any _ _ _ _).mono ?_
    rintro e w' ⟨rfl, rfl⟩
    rw [H1.out]
    go_wp2_with fail
    refine hC.mono ?_
    rintro e w' ⟨rfl, hb⟩
    rw [hA.out]
    generalize hq : (s.data.toList.any fun c => notName c.toNat) = q
    have HQ := Lib.hid hq
    clear hq
    go_wp2
    go_ret
    exact ⟨by rw [H1.out, HQ.out]; first | rfl | simp, hb⟩
  · have H1 := Lib.hid (Bool.eq_false_iff.2 h1)
    clear h1
    go_enter Tryz.func86, Tryz.ntmps86
    go_wp2_with fail
    refine (between_any _ _ _ _).mono ?_
    rintro e w' ⟨rfl, rfl⟩
    rw [H1.out]
    go_wp2
    go_ret
    exact ⟨by rw [H1.out]; first | rfl | simp, Below.refl _ _⟩
end Go.Proofs.YtdfkaijeppdhaaaGreatDoor

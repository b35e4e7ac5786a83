/- Texts of this claim, laid together: Pv. -/
import Derived.Test.YtdfkaijeppdhaaaGreatDoorZEr01
import Derived.Test.YtdfkaijeppdhaaaGreatDoorZEr41
import Derived.Shelf.Strings.SlTrimAscii
import Derived.KernelRfl

/- Contracts: print.Valid. -/
namespace Go.Proofs.YtdfkaijeppdhaaaGreatDoor
open Go.RowKit Go.Shelf
/-- The peaks of a print. -/
def peaksL : List UInt8 := [97, 98, 99, 100, 101, 102, 103, 104]
def printB (s : ByteArray) : Bool := decide (s.size ≤ 20) && (Lib.trimS s.data.toList peaksL).isEmpty
theorem trim_print (s : ByteArray) (w : World) (hs : s.size ≤ 1000000) :
    Calls Tryz.prog 251 #[.string s, .string ⟨#[97, 98, 99, 100, 101, 102, 103, 104]⟩] w fun e w' => e = .returned (.string ⟨(Lib.trimS s.data.toList peaksL).toArray⟩) ∧ Below w.heap.size w w' := by
  have H := Any.strings_Trim_laid Tryz.lays160 (by kernel_rfl) s ⟨#[97, 98, 99, 100, 101, 102, 103, 104]⟩ w (by omega) (by decide) (ascii_of_all (by decide))
  exact H
theorem drop_nil {α : Type} (p : α → Bool) : ∀ l : List α, l.dropWhile p = [] ↔ ∀ x ∈ l, p x = true
  | [] => by simp
  | x :: r => by
    have ih := drop_nil p r
    rw [List.dropWhile_cons]
    cases hp : p x with
    | true => simp [ih, hp]
    | false => simp [hp]
theorem valid_print (s : ByteArray) (w : World) (hs : s.size ≤ 1000000) :
    Calls Tryz.prog 234 #[.string s] w fun e w' => e = .returned (.bool (printB s)) ∧ Below w.heap.size w w' := by
  have HT := Lib.hid (trim_print s w hs)
  obtain ⟨T, hT⟩ : ∃ T, T = Lib.trimS s.data.toList peaksL := ⟨_, rfl⟩
  unfold printB
  rw [← hT] at HT ⊢
  clear hT
  by_cases h : s.size ≤ 20
  · have h1 : (s.size : Int) ≤ 20 := by omega
    go_enter Tryz.func234, Tryz.ntmps234
    go_wp2_with (first | (go_at_call 251; refine HT.out.mono ?_; rintro e w1 ⟨rfl, hb1⟩) | fail)
    go_ret
    cases T <;> exact ⟨by simp [h], hb1⟩
  · have h1 : ¬ (s.size : Int) ≤ 20 := by omega
    go_enter Tryz.func234, Tryz.ntmps234
    go_wp2_with fail
    go_ret
    exact ⟨by simp [h], Below.refl _ _⟩
end Go.Proofs.YtdfkaijeppdhaaaGreatDoor

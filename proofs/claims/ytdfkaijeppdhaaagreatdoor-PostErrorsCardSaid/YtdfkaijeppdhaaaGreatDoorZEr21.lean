/- Texts of this claim, laid together: TdPl. -/
import Derived.Test.YtdfkaijeppdhaaaGreatDoorZEr18
import Derived.Test.YtdfkaijeppdhaaaGreatDoorZEr20
import Derived.Lib.AtoiAll

/- Plain: the tide of a text, as the program reads it and as the reference does. -/
namespace Go.Proofs.YtdfkaijeppdhaaaGreatDoor.Td
open Go.RowKit Go.Shelf
/-- A number as the program reads it; none: an error. -/
def numP (s : ByteArray) : Option Int := match Lib.atoiAll s.data.toList with
  | .ok n => some n
  | _ => none
/-- All of a list, or none. -/
def allS {α β : Type} (f : α → Option β) : List α → Option (List β)
  | [] => some []
  | x :: xs => match f x, allS f xs with
    | some y, some ys => some (y :: ys)
    | _, _ => none
theorem allS_snoc {α β : Type} (f : α → Option β) (xs : List α) (x : α) : allS f (xs ++ [x]) = match allS f xs, f x with
    | some ys, some y => some (ys ++ [y])
    | _, _ => none := by
  induction xs with
  | nil => simp only [List.nil_append, allS]; cases f x <;> rfl
  | cons z zs ih =>
    rw [List.cons_append, allS, ih]
    cases h1 : f z <;> cases h2 : allS f zs <;> cases h3 : f x <;> simp [allS, h1, h2]
theorem allS_bad {α β : Type} (f : α → Option β) (xs : List α) {x : α} (hx : x ∈ xs) (h : f x = none) : allS f xs = none := by
  induction xs with
  | nil => simp at hx
  | cons z zs ih =>
    rcases List.mem_cons.1 hx with rfl | hx
    · simp [allS, h]
    · rw [allS, ih hx]; cases f z <;> rfl
theorem allS_len {α β : Type} (f : α → Option β) : ∀ (xs : List α) (ys : List β), allS f xs = some ys → ys.length = xs.length
  | [], ys, h => by simp only [allS, Option.some.injEq] at h; subst h; rfl
  | x :: xs, ys, h => by
    rw [allS] at h
    cases h1 : f x <;> cases h2 : allS f xs <;> simp [h1, h2] at h
    subst h
    simp [allS_len f xs _ h2]

def wavP (s : ByteArray) : Option (List Int) := allS numP (splitA 44 s)
def rawP (s : ByteArray) : Option (List (List Int)) := allS wavP (splitA 59 s)
/-- What the program's Parse finds. -/
def parP (s : ByteArray) : Option (List (List Int)) := if 240 < s.size then none else match rawP s with
  | none => none
  | some t => if vld t && decide (texL t = s.data.toList) then some t else none

end Go.Proofs.YtdfkaijeppdhaaaGreatDoor.Td

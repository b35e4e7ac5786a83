/- Contracts of the reference, told of lists of bytes: cut, natural (Post). -/
import Derived.Test.YtdfkaijeppdhaaaGreatDoorRa
namespace Go.Proofs.YtdfkaijeppdhaaaGreatDoor
open Go.RowKit Go.Shelf

theorem cutR_len : ∀ (l : List UInt8), (cutR l).1.length ≤ l.length ∧ (cutR l).2.1.length ≤ l.length
  | [] => by simp [cutR]
  | b :: r => by
    have := cutR_len r
    unfold cutR
    split <;> simp <;> omega
theorem bsB_size (l : List UInt8) : (bsB l).size = l.length := by rw [ba_size, bsB_list]
theorem rcut_list (l : List UInt8) (w : World) (hl : l.length ≤ 4000000000) : Calls Tryz.prog 67 #[.string (bsB l)] w (CutPost l w) := by
  have := rcut_any (bsB l) w (by rw [bsB_size]; exact hl)
  rwa [bsB_list] at this
def natP (o : Option Nat) : Nat := o.getD 0
theorem natV_is (o : Option Nat) : natV o = .tuple #[.int .i64 (natP o : Nat), .bool o.isSome] := by cases o <;> rfl
def Cut3 (A R : ByteArray) (q : Bool) (w : World) (e : Ending) (w' : World) : Prop := e = .returned (.tuple #[.string A, .string R, .bool q]) ∧ Below w.heap.size w w'
def Nat2 (p : Nat) (x : Bool) (w : World) (e : Ending) (w' : World) : Prop := e = .returned (.tuple #[.int .i64 (p : Nat), .bool x]) ∧ w = w'
def Bool1 (x : Bool) (w : World) (e : Ending) (w' : World) : Prop := e = .returned (.bool x) ∧ w = w'
theorem rnat_list (l : List UInt8) (d : Nat) (w : World) (hd : d ≤ 9) (hl : l.length ≤ 4000000000) : Calls Tryz.prog 68 #[.string (bsB l), .int .i64 d] w (Nat2 (natP (natR l d)) (natR l d).isSome w) := by
  have := rnatural_any (bsB l) d w hd (by rw [bsB_size]; exact hl)
  rw [bsB_list, natV_is] at this
  exact this
theorem natP_lt {l : List UInt8} {k : Nat} : natP (natR l k) < 10 ^ k := by
  cases h : natR l k with
  | none => exact Nat.pos_of_neZero _
  | some n => exact (natR_some h).2.1
end Go.Proofs.YtdfkaijeppdhaaaGreatDoor

/- Contracts: writing into a strings.Builder; the text of a book. -/
import Derived.Test.YtdfkaijeppdhaaaGreatDoorEf
import Derived.Test.YtdfkaijeppdhaaaGreatDoorEt
import Derived.Test.YtdfkaijeppdhaaaGreatDoorEu
import Derived.Test.YtdfkaijeppdhaaaGreatDoorRt
import Derived.Shelf.Strings.BuilderK
namespace Go.Proofs.YtdfkaijeppdhaaaGreatDoor
open Go.RowKit Go.Shelf

def ren167 : Go.Shelf.Ren := ⟨fun | 167 => 92 | 240 => 120 | 276 => 153 | n => n, fun | 31 => 22 | 9 => 9 | 3 => 3 | 4 => 4 | 0 => 0 | 20 => 20 | 72 => 151 | 76 => 154 | 70 => 149 | 37 => 65 | 75 => 153 | 127 => 186 | 164 => 217 | 5 => 5 | 80 => 55 | n => n, fun | n => n⟩
theorem lays167 : Go.Proofs.Lays.n167 Tryz.prog ren167 := {
  mixed := Tryz.lays156.mixed
  f167 := Tryz.func92.trans (congrArg some (by kernel_rfl))
  f240 := Tryz.func120.trans (congrArg some (by kernel_rfl))
  f276 := Tryz.func153.trans (congrArg some (by kernel_rfl))
  t0 := Tryz.lays156.t0
  a0 := Tryz.lays156.a0
  z0 := Tryz.lays156.z0
  v0 := Tryz.lays156.v0
  t4 := Tryz.lays156.t4
  a4 := Tryz.lays156.a4
  z4 := Tryz.lays156.z4
  v4 := Tryz.lays156.v4
  t5 := Tryz.underlying5
  a5 := Tryz.isAgg5
  z5 := Tryz.sizeOf5
  v5 := Tryz.zeroValue5
  t9 := Tryz.lays156.t9
  a9 := Tryz.lays156.a9
  z9 := Tryz.lays156.z9
  v9 := Tryz.lays156.v9
  t20 := Tryz.lays156.t20
  a20 := Tryz.lays156.a20
  z20 := Tryz.lays156.z20
  v20 := Tryz.lays156.v20
  t37 := Tryz.lays156.t37
  a37 := Tryz.lays156.a37
  z37 := Tryz.lays156.z37
  v37 := Tryz.lays156.v37
  t70 := Tryz.lays156.t70
  a70 := Tryz.lays156.a70
  z70 := Tryz.lays156.z70
  v70 := Tryz.lays156.v70
  t72 := Tryz.lays156.t72
  a72 := Tryz.lays156.a72
  z72 := Tryz.lays156.z72
  v72 := Tryz.lays156.v72
  t75 := Tryz.lays156.t75
  a75 := Tryz.lays156.a75
  z75 := Tryz.lays156.z75
  v75 := Tryz.lays156.v75
  t164 := Tryz.lays156.t164
  a164 := Tryz.lays156.a164
  z164 := Tryz.lays156.z164
  v164 := Tryz.lays156.v164 }
theorem extra167 : Builder.Extra Tryz.prog ren167 := {
  sizeBuilder := by kernel_rfl
  liesBuilder := by kernel_rfl
  t5 := Tryz.underlying5
  a5 := Tryz.isAgg5
  z5 := Tryz.sizeOf5
  v5 := Tryz.zeroValue5
  infoByte := by kernel_rfl
  cellsByte := by kernel_rfl
  sizeByte := by kernel_rfl
  neB5 := by decide }
/-- A builder that holds l. -/
def Bld (b : Nat) (l : List UInt8) (w : World) : Prop := Lib.IsBuilderF 151 5 b b (Lib.byteCells l) w
theorem Bld.lt {b : Nat} {l : List UInt8} {w : World} (h : Bld b l w) : b < w.heap.size := by rcases h with h | h <;> exact h.lt
theorem byteCells_append (l m : List UInt8) : Lib.byteCells (l ++ m) = Lib.byteCells l ++ Lib.byteCells m := by simp [Lib.byteCells]
theorem Bld.new (w : World) : Bld w.heap.size [] (w.alloc (.cells #[.pointer none, .slice none 0 0] 151)) := Lib.IsBuilderF.of (Lib.fresh_isBuilder 151 5 w)
theorem Bld.alloc {b : Nat} {l : List UInt8} {w : World} (h : Bld b l w) (o : Obj) : Bld b l (w.alloc o) := by
  rcases h with h | h
  · exact .inl (h.alloc o)
  · exact .inr (h.alloc o)
theorem Bld.drewN {b : Nat} {l : List UInt8} {w : World} (h : Bld b l w) (k : Nat) : Bld b l (w.drewN k) := h
theorem BuilderAtF_kept {T e : TypeId} {B b : Nat} {p : Value} {bs : List Value} {w w' : World} (h : Lib.BuilderAtF T e B b p bs w) (hb : Below w.heap.size w w') : Lib.BuilderAtF T e B b p bs w' := by
  have hlt := h.lt
  obtain ⟨hB, v, hbk, hown, hne⟩ := h
  refine ⟨hB, v, (hb.block b hlt).trans hbk, hown.kept (row := none) ⟨hb.os, hb.tape, hb.output, hb.size, fun k hk _ => hb.block k hk⟩ (by cases v.ownBlock <;> simp), hne⟩
theorem Bld.below {b : Nat} {l : List UInt8} {w w' : World} (h : Bld b l w) (hb : Below w.heap.size w w') : Bld b l w' := by
  rcases h with h | h
  · exact .inl (BuilderAtF_kept h hb)
  · exact .inr (BuilderAtF_kept h hb)
/-- What a write leaves. -/
structure Wrote (b : Nat) (l : List UInt8) (w w' : World) : Prop where
  bld : Bld b l w'
  below : Below b w w'
  kept : Lib.OthersKept 5 (some b) w w'
theorem ws_any (b : Nat) (l : List UInt8) (s : ByteArray) (w : World) (h : Bld b l w) (hl : l.length + s.size ≤ 1000000) :
    Calls Tryz.prog 91 #[.pointer (some ⟨b, 0, none⟩), .string s] w fun e w' => e = .returned (.tuple #[.int .i64 s.size, .nilIface]) ∧ Wrote b (l ++ s.data.toList) w w' := by
  refine (Any.Builder_WriteString_k { Tryz.lays156 with } Tryz.Builder_Extra_156 b b (Lib.byteCells l) s w h (by rw [Lib.byteCells_length]; omega) (Nat.le_of_lt h.lt)).mono ?_
  rintro e w' ⟨rfl, h1, h2, h3⟩
  exact ⟨rfl, .inr (by rw [byteCells_append]; exact h1), h2, h3⟩
theorem wb_any (b : Nat) (l : List UInt8) (c : UInt8) (w : World) (h : Bld b l w) (hl : l.length + 1 ≤ 1000000) :
    Calls Tryz.prog 92 #[.pointer (some ⟨b, 0, none⟩), .int .u8 (c.toNat : Int)] w fun e w' => e = .returned .nilIface ∧ Wrote b (l ++ [c]) w w' := by
  refine (Any.Builder_WriteByte_k lays167 extra167 b b (Lib.byteCells l) (c.toNat : Int) w h (by rw [Lib.byteCells_length]; omega) (Nat.le_of_lt h.lt)).mono ?_
  rintro e w' ⟨rfl, h1, h2, h3⟩
  exact ⟨rfl, .inr (by rw [byteCells_append]; exact h1), h2, h3⟩
theorem bs_any (b : Nat) (l : List UInt8) (w : World) (h : Bld b l w) :
    Calls Tryz.prog 93 #[.pointer (some ⟨b, 0, none⟩)] w fun e w' => e = .returned (.string ⟨l.toArray⟩) ∧ Below b w w' := by
  refine (Any.Builder_String_any_f Tryz.lays169 Tryz.Builder_Extra_169 b b l w h (Nat.le_of_lt h.lt)).mono ?_
  rintro e w' ⟨rfl, _, h2⟩
  exact ⟨rfl, h2⟩
end Go.Proofs.YtdfkaijeppdhaaaGreatDoor

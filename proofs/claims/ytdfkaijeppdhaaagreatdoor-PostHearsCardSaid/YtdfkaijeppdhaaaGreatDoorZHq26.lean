/- Texts of this claim, laid together: FdShelf. -/
import Derived.Shelf.Strings.Builder1
import Derived.Shelf.Strings.Builder2
import Derived.Shelf.Strings.OnBuilder
import Derived.Shelf.Strings.Trim
import Derived.Shelf.Small.Utf8
import Derived.Shelf.Small.Bits
import Derived.Shelf.Small.Strs
import Derived.Shelf.Small.Wraps
import Derived.Shelf.Strings.BuilderF
import Derived.Shelf.Strings.BuilderK
import Derived.Shelf.Utf8.RuneCount
import Derived.Shelf.Strings.Builder2Cap
import Derived.Shelf.Strconv.Atoi
import Derived.Shelf.Strconv.Itoa0
import Derived.Shelf.Strconv.Itoa1
import Derived.Shelf.LaysM
import Derived.Shelf.Strconv.Itoa2
import Derived.Shelf.Strconv.Itoa3
import Derived.Shelf.Strconv.AtoiErrFast
import Derived.Shelf.Strconv.ParseIntEmpty
import Derived.Shelf.Strconv.AtoiFail
import Derived.Shelf.Strconv.Clone
import Derived.Shelf.Strconv.SyntaxError
import Derived.Shelf.LaysC
import Derived.Shelf.Strconv.ToError
import Derived.Shelf.Strconv.Lower
import Derived.Shelf.Strconv.ParseUint10
import Derived.Shelf.Strconv.ParseUint10Empty
import Derived.Shelf.Strconv.ParseUint10Any
import Derived.Shelf.Strconv.ParseInt10
import Derived.Shelf.Strconv.AtoiLong
import Derived.Shelf.Strconv.AtoiInnerAll
import Derived.Shelf.Strconv.RangeError
import Derived.Shelf.Strconv.ToErrorRange
import Derived.Shelf.Strconv.AtoiAll
import Derived.Shelf.Strconv.ParseUintEmpty
import Derived.Shelf.Strconv.ParseUint10b64
import Derived.Shelf.Strconv.ParseUint10b32
import Derived.Shelf.Strconv.ParseUint10b16
import Derived.Shelf.Strconv.ParseUint10b8
import Derived.Shelf.Strings.Search1
import Derived.Shelf.Strings.Search2
import Derived.Shelf.Strings.Search3
import Derived.Shelf.Strings.Cut
import Derived.Shelf.Strings.Count
import Derived.Shelf.Strings.Shaped
import Derived.Shelf.Sort.Plain
import Derived.Shelf.GgClosure.StringsIndexFunc
import Derived.Ground.GgwProg
import Derived.Shelf.GgClosure.StringsIndexFuncTop
import Derived.Shelf.GgClosure.StringsRunes
import Derived.Shelf.Strings.Prefix
import Derived.Shelf.Strings.Split
import Derived.Shelf.Strings.SplitShaped
import Derived.Shelf.Unicode.Decode
import Derived.Shelf.Strings.Runes
import Derived.Shelf.Strings.RuneCount
import Derived.Shelf.Strings.AsciiSet
import Derived.Shelf.Strings.Explode
import Derived.Shelf.Unicode.DecodeSlow
import Derived.Shelf.Unicode.DecodeAny
import Derived.Shelf.Unicode.DecodeLast
import Derived.Ground.Names2Prog
import Derived.Shelf.Slices.SearchI
import Derived.Shelf.Slices.In.SortNone
import Derived.Ground.SlsfProg
import Derived.Shelf.SlSortCmp.Insertion
import Derived.Shelf.SlSortCmp.Insertion1
import Derived.Shelf.SlSortCmp.NoneTotal
import Derived.Test.YtdfkaijeppdhaaaGreatDoorZHq04

/-
  DERIVED: THE SHELF's CONTRACTS AT THIS DUMP, IN PLAIN WORDS (tools/lay-plain.mjs out of 'TryzShelf.lean', which tools/lay-shelf.mjs wrote): THE SAME DECLARATIONS UNDER THE SAME NAMES: 'import', 'namespace', 'open', 'def', 'theorem' AND NOTHING ELSE: no command of the shelf's: FOR A HAND-IN. Each laying: the table of numbers ('.._ren') and one theorem, a field a fact of the dump's own or the kernel's comparison; each contract: ONE APPLICATION.
-/
namespace Go.Proofs
open Go.Shelf
def Tryz.lays189_ren : Go.Shelf.Ren := ⟨fun | 189 => 319 | 125 => 122 | 257 => 323 | 128 => 162 | 129 => 163 | 294 => 324 | 295 => 325 | 296 => 326 | 297 => 327 | 298 => 328 | 299 => 329 | 216 => 330 | 300 => 331 | 301 => 332 | 328 => 333 | 329 => 205 | 330 => 206 | 331 => 334 | 332 => 335 | 215 => 164 | 343 => 336 | n => n, fun | 28 => 122 | 3 => 3 | 46 => 189 | 0 => 0 | 51 => 30 | 53 => 211 | 4 => 4 | 183 => 221 | 182 => 220 | 131 => 116 | 5 => 5 | 9 => 9 | 218 => 261 | 222 => 265 | 228 => 292 | 229 => 293 | n => n, fun | n => n⟩
theorem Tryz.lays189 : Go.Proofs.Lays.n189 Tryz.prog Tryz.lays189_ren := {
  mixed := by kernel_rfl
  f125 := Tryz.func122.trans (congrArg some (by kernel_rfl))
  f128 := Tryz.func162.trans (congrArg some (by kernel_rfl))
  f129 := Tryz.func163.trans (congrArg some (by kernel_rfl))
  f189 := Tryz.func319.trans (congrArg some (by kernel_rfl))
  f215 := Tryz.func164.trans (congrArg some (by kernel_rfl))
  f216 := Tryz.func330.trans (congrArg some (by kernel_rfl))
  f257 := Tryz.func323.trans (congrArg some (by kernel_rfl))
  f294 := Tryz.func324.trans (congrArg some (by kernel_rfl))
  f295 := Tryz.func325.trans (congrArg some (by kernel_rfl))
  f296 := Tryz.func326.trans (congrArg some (by kernel_rfl))
  f297 := Tryz.func327.trans (congrArg some (by kernel_rfl))
  f298 := Tryz.func328.trans (congrArg some (by kernel_rfl))
  f299 := Tryz.func329.trans (congrArg some (by kernel_rfl))
  f300 := Tryz.func331.trans (congrArg some (by kernel_rfl))
  f301 := Tryz.func332.trans (congrArg some (by kernel_rfl))
  f328 := Tryz.func333.trans (congrArg some (by kernel_rfl))
  f329 := Tryz.func205.trans (congrArg some (by kernel_rfl))
  f330 := Tryz.func206.trans (congrArg some (by kernel_rfl))
  f331 := Tryz.func334.trans (congrArg some (by kernel_rfl))
  f332 := Tryz.func335.trans (congrArg some (by kernel_rfl))
  f343 := Tryz.func336.trans (congrArg some (by kernel_rfl))
  t0 := Tryz.underlying0
  a0 := Tryz.isAgg0
  z0 := Tryz.sizeOf0
  v0 := Tryz.zeroValue0
  t3 := Tryz.underlying3
  a3 := Tryz.isAgg3
  z3 := Tryz.sizeOf3
  v3 := Tryz.zeroValue3
  t4 := Tryz.underlying4
  a4 := Tryz.isAgg4
  z4 := Tryz.sizeOf4
  v4 := Tryz.zeroValue4
  t5 := Tryz.underlying5
  a5 := Tryz.isAgg5
  z5 := Tryz.sizeOf5
  v5 := Tryz.zeroValue5
  t9 := Tryz.underlying9
  a9 := Tryz.isAgg9
  z9 := Tryz.sizeOf9
  v9 := Tryz.zeroValue9
  t28 := Tryz.underlying122
  a28 := Tryz.isAgg122
  z28 := Tryz.sizeOf122
  v28 := Tryz.zeroValue122
  t46 := Tryz.underlying189
  a46 := Tryz.isAgg189
  z46 := Tryz.sizeOf189
  v46 := Tryz.zeroValue189
  t51 := Tryz.underlying30
  a51 := Tryz.isAgg30
  z51 := Tryz.sizeOf30
  v51 := Tryz.zeroValue30
  t53 := Tryz.underlying211
  a53 := Tryz.isAgg211
  z53 := Tryz.sizeOf211
  v53 := Tryz.zeroValue211
  t131 := Tryz.underlying116
  a131 := Tryz.isAgg116
  z131 := Tryz.sizeOf116
  v131 := Tryz.zeroValue116
  t182 := Tryz.underlying220
  a182 := Tryz.isAgg220
  z182 := Tryz.sizeOf220
  v182 := Tryz.zeroValue220
  t183 := Tryz.underlying221
  a183 := Tryz.isAgg221
  z183 := Tryz.sizeOf221
  v183 := Tryz.zeroValue221
  t218 := Tryz.underlying261
  a218 := Tryz.isAgg261
  z218 := Tryz.sizeOf261
  v218 := Tryz.zeroValue261
  t222 := Tryz.underlying265
  a222 := Tryz.isAgg265
  z222 := Tryz.sizeOf265
  v222 := Tryz.zeroValue265
  t228 := Tryz.underlying292
  a228 := Tryz.isAgg292
  z228 := Tryz.sizeOf292
  v228 := Tryz.zeroValue292
  t229 := Tryz.underlying293
  a229 := Tryz.isAgg293
  z229 := Tryz.sizeOf293
  v229 := Tryz.zeroValue293 }
open Go.Sort Go.RowKit in
theorem Tryz.slices_Sort_int (blk off cap : Nat) (zs : List Int) (w : World) (hH : Holds (Value.int .i64) w blk off zs.toArray) (hblk : blk < w.heap.size) (hsz : zs.length < 4611686018427387904) :
    Calls Tryz.prog 319 #[.slice (some ⟨blk, off, none⟩) zs.length cap] w fun e w' =>
      e = .returned (.tuple #[]) ∧ ∃ n os, w' = grow (putRow (Value.int .i64) (Sort.ahead w n) blk off (zs.mergeSort fun x y => decide (x ≤ y)).toArray) os := Any.slices_Sort_int Tryz.lays189 blk off cap zs w hH hblk hsz
/-- .. and plain. (LAID: no walk: one application.) -/
theorem Tryz.slices_Sort_int_none (p : Option Addr) (cap : Nat) (w : World) :
    Calls Tryz.prog 319 #[.slice p 0 cap] w fun e w' => e = .returned (.tuple #[]) ∧ w' = w := Any.slices_Sort_int_none Tryz.lays189 p cap w
end Go.Proofs

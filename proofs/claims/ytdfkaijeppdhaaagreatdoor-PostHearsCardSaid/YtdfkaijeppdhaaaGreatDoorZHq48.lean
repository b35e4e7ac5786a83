/- Texts of this claim, laid together: RowB. -/
import Derived.Test.YtdfkaijeppdhaaaGreatDoorZHq47
import Derived.Test.YtdfkaijeppdhaaaGreatDoorZHq14
import Derived.SliceStrings

/- Arguments that are lists of strings, lists of bytes, or arrays of four ints, opened. -/
namespace Go.Proofs.YtdfkaijeppdhaaaGreatDoor
open Go.ChangeShapes Go.WideShapes Go.ChangeAt Go.RowKit Go.Deep
theorem Tryz.cellsStrOne : Tryz.prog.cellsOf 9 = 1 := by kernel_rfl
theorem Tryz.cellsU8One : Tryz.prog.cellsOf 5 = 1 := by kernel_rfl
theorem getD_takeB {α : Type} {l : List α} {n j : Nat} (hj : j < n) (d : α) : (l.take n).getD j d = l.getD j d := by
  simp [List.getD_eq_getElem?_getD, hj]
theorem getD_any {α : Type} {l : List α} {j : Nat} (hj : j < l.length) (d d' : α) : l.getD j d = l.getD j d' := by
  rw [List.getD_eq_getElem?_getD, List.getD_eq_getElem?_getD, List.getElem?_eq_getElem hj]; rfl
theorem add_plainB (b off k : Nat) : (⟨b, off, none⟩ : Addr).add k = ⟨b, off + k, none⟩ := by simp [Addr.add]
set_option maxRecDepth 100000 in
/-- An argument of type []string. -/
theorem open_strl {H : Type} {enc : TypeId × Value → H} {W : World} {base : Nat} {v : Value} {d : DataW H} {p : List MemPlace} (ho : Value.okWide Tryz.prog W .any base 22 v)
    (h : DataW.Trod enc Tryz.prog W 0 (fun _ => true) true 22 v d p) : ∃ l, StrsIn W v l := by
  obtain ⟨a0, len, cap, rfl⟩ := okWide_slice Tryz.underlying22 ho
  obtain ⟨fuel, hf⟩ := h
  rcases Go.ChangeShapes.open_strings Tryz.underlying22 Tryz.underlying9 Tryz.cellsStrOne hf with ⟨hcs, hx⟩ | ⟨a, len', cap', ss, hcs, _, hl, hm, hz, hx, hcell, hwz⟩
  · simp [Value.cells] at hcs
    obtain ⟨rfl, rfl, rfl⟩ := hcs
    exact ⟨[], ⟨none, 0, rfl, fun h => by simp at h⟩, by simp, fun s hs => by simp at hs⟩
  · simp [Value.cells] at hcs
    obtain ⟨rfl, rfl, rfl⟩ := hcs
    simp only [if_true] at hz
    have hn : (ss.take len).length = len := by simp; omega
    refine ⟨ss.take len, ⟨some a, cap, by rw [hn], fun h0 => ?_⟩, by rw [hn]; exact Nat.le_trans hl hm, fun s hs => hwz s (List.mem_of_mem_take hs)⟩
    rw [hn] at h0
    obtain ⟨b, off, spot⟩ := a
    have hspot : spot = none := by simpa [Addr.add] using World.cell?_spot (hcell 0 (by omega))
    subst hspot
    refine ⟨b, off, rfl, fun j hj => ?_⟩
    rw [hn] at hj
    rw [← add_plainB, hcell j (by omega), getD_takeB hj, getD_any (by omega)]
set_option maxRecDepth 100000 in
/-- An argument of type []uint8. -/
theorem open_bytl {H : Type} {enc : TypeId × Value → H} {W : World} {base : Nat} {v : Value} {d : DataW H} {p : List MemPlace} (ho : Value.okWide Tryz.prog W .any base 65 v)
    (h : DataW.Trod enc Tryz.prog W 0 (fun _ => true) true 65 v d p) : ∃ l, U8sAt W v l := by
  obtain ⟨a0, len, cap, rfl⟩ := okWide_slice Tryz.underlying65 ho
  obtain ⟨fuel, hf⟩ := h
  rcases open_ints Tryz.underlying65 Tryz.underlying5 Tryz.cellsU8One hf with ⟨hcs, hx⟩ | ⟨a, len', cap', zs, hcs, _, hl, hm, hz, hx, hcell, hwz⟩
  · simp [Value.cells] at hcs
    obtain ⟨rfl, rfl, rfl⟩ := hcs
    exact ⟨[], ⟨none, 0, rfl, by simp, fun h => by simp at h⟩, fun j hj => by simp at hj⟩
  · simp [Value.cells] at hcs
    obtain ⟨rfl, rfl, rfl⟩ := hcs
    simp only [if_true] at hz
    have hn : (zs.take len).length = len := by simp; omega
    refine ⟨zs.take len, ⟨some a, cap, by rw [hn], by rw [hn]; exact Nat.le_trans hl hm, fun h0 => ?_⟩, fun j hj => ?_⟩
    · rw [hn] at h0
      obtain ⟨b, off, spot⟩ := a
      have hspot : spot = none := by simpa [Addr.add] using World.cell?_spot (hcell 0 (by omega))
      subst hspot
      refine ⟨b, off, rfl, fun j hj => ?_⟩
      rw [hn] at hj
      rw [← add_plainB, hcell j (by omega), getD_takeB hj]
    · rw [hn] at hj
      rw [getD_takeB hj, List.getD_eq_getElem?_getD, List.getElem?_eq_getElem (by omega)]
      have := hwz _ (List.getElem_mem (show j < zs.length by omega))
      simpa [Lit.wf, IntKind.min, IntKind.max, IntKind.signed, IntKind.bits] using this
set_option maxRecDepth 100000 in
theorem open_quad {H : Type} {enc : TypeId × Value → H} {W : World} {base : Nat} {v : Value} {d : DataW H} {p : List MemPlace} (ho : Value.okWide Tryz.prog W .any base 34 v)
    (h : DataW.Trod enc Tryz.prog W 0 (fun _ => true) true 34 v d p) : ∃ a b c d : Int, v = .agg #[.int .i64 a, .int .i64 b, .int .i64 c, .int .i64 d] := by
  obtain ⟨fuel, hf⟩ := h
  simp only [Value.okWide, Tryz.underlying34] at ho
  obtain ⟨cs, rfl, h2, _⟩ := ho
  obtain ⟨xs, m, _, _, hl, hxl, hx⟩ := DataW.trod_array Tryz.underlying34 hf
  have hc1 : Tryz.prog.cellsOf 3 = 1 := by kernel_rfl
  have hc2 : Tryz.prog.cellsOf 34 = 4 := by kernel_rfl
  obtain ⟨l⟩ := cs
  rw [hc2] at hl
  have hl' : l.length = 4 := hl
  obtain ⟨a, b, c, e, rfl⟩ : ∃ a b c e, l = [a, b, c, e] := by
    match l, hl' with
    | [a, b, c, e], _ => exact ⟨a, b, c, e, rfl⟩
  have t0 := hx 0 (by omega)
  have t1 := hx 1 (by omega)
  have t2 := hx 2 (by omega)
  have t3 := hx 3 (by omega)
  rw [hc1, List.getElem?_eq_getElem (by omega)] at t0 t1 t2 t3
  obtain ⟨n0, e0, _, _⟩ := DataW.trod_int (show Tryz.prog.underlying _ = some (.int .i64) from Tryz.underlying3) t0
  obtain ⟨n1, e1, _, _⟩ := DataW.trod_int (show Tryz.prog.underlying _ = some (.int .i64) from Tryz.underlying3) t1
  obtain ⟨n2, e2, _, _⟩ := DataW.trod_int (show Tryz.prog.underlying _ = some (.int .i64) from Tryz.underlying3) t2
  obtain ⟨n3, e3, _, _⟩ := DataW.trod_int (show Tryz.prog.underlying _ = some (.int .i64) from Tryz.underlying3) t3
  simp [Value.cells] at e0 e1 e2 e3
  subst e0 e1 e2 e3
  exact ⟨n0, n1, n2, n3, rfl⟩
end Go.Proofs.YtdfkaijeppdhaaaGreatDoor

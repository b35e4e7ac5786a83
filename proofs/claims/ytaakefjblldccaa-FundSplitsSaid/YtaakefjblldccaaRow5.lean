/- An argument that is an array of two uint16, opened. -/
import Derived.Test.YtaakefjblldccaaRow2
import Derived.OpenShut
namespace Go.Proofs.Ytaakefjblldccaa
open Go.ChangeShapes Go.WideShapes Go.ChangeAt Go.RowKit Go.Deep

set_option maxRecDepth 100000 in
theorem open_upair {H : Type} {enc : TypeId × Value → H} {W : World} {base : Nat} {v : Value} {d : DataW H} {p : List MemPlace} (ho : Value.okWide Try.prog W .any base 63 v)
    (h : DataW.Trod enc Try.prog W 0 (fun _ => true) true 63 v d p) : ∃ a b : Int, v = .agg #[.int .u16 a, .int .u16 b] ∧ (Lit.int .u16 a).wf = true ∧ (Lit.int .u16 b).wf = true := by
  obtain ⟨fuel, hf⟩ := h
  simp only [Value.okWide, Try.underlying63] at ho
  obtain ⟨cs, rfl, h2, _⟩ := ho
  obtain ⟨xs, m, _, _, hl, hxl, hx⟩ := DataW.trod_array Try.underlying63 hf
  have hc1 : Try.prog.cellsOf 55 = 1 := by kernel_rfl
  have hc2 : Try.prog.cellsOf 63 = 2 := by kernel_rfl
  obtain ⟨l⟩ := cs
  rw [hc2] at hl
  have hl' : l.length = 2 := hl
  obtain ⟨a, b, rfl⟩ : ∃ a b, l = [a, b] := by
    match l, hl' with
    | [a, b], _ => exact ⟨a, b, rfl⟩
  have t0 := hx 0 (by omega)
  have t1 := hx 1 (by omega)
  rw [hc1, List.getElem?_eq_getElem (by omega)] at t0 t1
  obtain ⟨n0, e0, _, g0⟩ := DataW.trod_int (show Try.prog.underlying _ = some (.int .u16) from Try.underlying55) t0
  obtain ⟨n1, e1, _, g1⟩ := DataW.trod_int (show Try.prog.underlying _ = some (.int .u16) from Try.underlying55) t1
  simp [Value.cells] at e0 e1
  subst e0 e1
  exact ⟨n0, n1, rfl, g0, g1⟩

end Go.Proofs.Ytaakefjblldccaa

/- A list of ints with its capacity, and an array of four ints, opened. -/
import Derived.Test.YtaakefjblldccaaRow2
import Derived.Test.YtaakefjblldccaaSr
import Derived.OpenShut
namespace Go.Proofs.Ytaakefjblldccaa
open Go.ChangeShapes Go.WideShapes Go.ChangeAt Go.RowKit Go.Deep

set_option maxRecDepth 100000 in
theorem open_list_cap {H : Type} {enc : TypeId × Value → H} {W : World} {base : Nat} {v : Value} {d : DataW H} {p : List MemPlace} (ho : Value.okWide Try.prog W .any base 29 v)
    (h : DataW.Trod enc Try.prog W 0 (fun _ => true) true 29 v d p) : ∃ l, IntsAt W v l ∧ CapOk v := by
  obtain ⟨l, hl⟩ := open_list ho h
  refine ⟨l, hl, ?_⟩
  obtain ⟨a0, len, cap, rfl⟩ := okWide_slice Try.underlying29 ho
  obtain ⟨fuel, hf⟩ := h
  rcases open_ints Try.underlying29 Try.underlying3 Try.cellsInt hf with ⟨hcs, hx⟩ | ⟨a, len', cap', zs, hcs, _, hl, hm, hz, hx, hcell, hwz⟩
  · simp [Value.cells] at hcs
    obtain ⟨rfl, rfl, rfl⟩ := hcs
    exact ⟨_, _, _, rfl, by omega, by omega⟩
  · simp [Value.cells] at hcs
    obtain ⟨rfl, rfl, rfl⟩ := hcs
    exact ⟨_, _, _, rfl, hl, by unfold maxLen at hm; omega⟩

set_option maxRecDepth 100000 in
theorem open_quad {H : Type} {enc : TypeId × Value → H} {W : World} {base : Nat} {v : Value} {d : DataW H} {p : List MemPlace} (ho : Value.okWide Try.prog W .any base 59 v)
    (h : DataW.Trod enc Try.prog W 0 (fun _ => true) true 59 v d p) : ∃ a b c d : Int, v = .agg #[.int .i64 a, .int .i64 b, .int .i64 c, .int .i64 d] := by
  obtain ⟨fuel, hf⟩ := h
  simp only [Value.okWide, Try.underlying59] at ho
  obtain ⟨cs, rfl, h2, _⟩ := ho
  obtain ⟨xs, m, _, _, hl, hxl, hx⟩ := DataW.trod_array Try.underlying59 hf
  have hc1 : Try.prog.cellsOf 3 = 1 := by kernel_rfl
  have hc2 : Try.prog.cellsOf 59 = 4 := by kernel_rfl
  obtain ⟨l⟩ := cs
  rw [hc2] at hl
  have hl' : l.length = 4 := hl
  obtain ⟨a, b, c, e, rfl⟩ : ∃ a b c e, l = [a, b, c, e] := by
    match l, hl' with
    | [a, b, c, e], _ => exact ⟨a, b, c, e, rfl⟩
  have t0 := hx 0 (by omega)
  have t1 := hx 1 (by omega)
  have t2 := hx 2 (by omega)
  have t3 := hx 3 (by omega)
  rw [hc1, List.getElem?_eq_getElem (by omega)] at t0 t1 t2 t3
  obtain ⟨n0, e0, _, _⟩ := DataW.trod_int (show Try.prog.underlying _ = some (.int .i64) from Try.underlying3) t0
  obtain ⟨n1, e1, _, _⟩ := DataW.trod_int (show Try.prog.underlying _ = some (.int .i64) from Try.underlying3) t1
  obtain ⟨n2, e2, _, _⟩ := DataW.trod_int (show Try.prog.underlying _ = some (.int .i64) from Try.underlying3) t2
  obtain ⟨n3, e3, _, _⟩ := DataW.trod_int (show Try.prog.underlying _ = some (.int .i64) from Try.underlying3) t3
  simp [Value.cells] at e0 e1 e2 e3
  subst e0 e1 e2 e3
  exact ⟨n0, n1, n2, n3, rfl⟩

end Go.Proofs.Ytaakefjblldccaa

/- Arguments that are deeds, opened. -/
import Derived.Test.YtikcpfpeoofppaaRow
import Derived.Deep.Slices
import Derived.Deep.Fields
import Derived.ChangeSame
import Derived.Lib.SmallJoins
namespace Go.Proofs.Ytikcpfpeoofppaa
open Go.ChangeShapes Go.WideShapes Go.ChangeAt Go.RowKit Go.Deep

section
variable {H : Type} {enc : TypeId × Value → H} {P : Program} {w : World} {base : Nat} {spare : Nat → Bool} {held : Bool}
theorem open_slice_fields {t e : TypeId} {fs : Array Field} {fuel : Nat} {cs : List Value} {x : DataW H × List MemPlace} (ht : P.underlying t = some (.slice e)) (he : P.underlying e = some (.struct fs))
    (hone : oneCellFields P fs = true) (hC : P.cellsOf e = fs.size) (h : DataW.trod enc P w base spare held fuel t cs = some x) :
    (cs = [.slice none 0 0] ∧ x = (.nil, [])) ∨
    ∃ (a : Addr) (len cap m : Nat) (D : Nat → DataW H) (Pl : Nat → List MemPlace), cs = [.slice (some a) len cap] ∧ base ≤ a.block ∧ len ≤ cap ∧ cap ≤ maxLen ∧ m = (if spare a.block then cap else len) ∧
      x = (.slice ((List.range len).map D) ((List.range (m - len)).map fun j => D (len + j)), MemPlace.row a (m * fs.size) ++ (List.range m).flatMap Pl) ∧
      ∀ i, i < m → ∃ (ys : List (DataW H × List MemPlace)) (n : Nat), D i = .agg (ys.map (·.1)) ∧ Pl i = ys.flatMap (·.2) ∧ ys.length = fs.size ∧
        ∀ (j : Nat) (f : Field), fs[j]? = some f → ∃ (v : Value) (y : DataW H × List MemPlace), w.cell? (a.add (i * fs.size + j)) = some v ∧ ys[j]? = some y ∧ DataW.trod enc P w base spare held n f.type [v] = some y := by
  rcases open_slice ht h with h0 | ⟨a, len, cap, m, n, D, Pl, hcs, hb, hl, hm, hmm, hx, hi⟩
  · exact .inl h0
  · refine .inr ⟨a, len, cap, m, D, Pl, hcs, hb, hl, hm, hmm, by rw [hC] at hx; exact hx, fun i him => ?_⟩
    obtain ⟨cs', hc, ht'⟩ := hi i him
    rw [hC] at hc
    obtain ⟨ys, n', hn', hy, hlen, hyl, hf⟩ := DataW.trod_struct he ht'
    obtain ⟨_, hcl, hat⟩ := World.cells?_some hc
    simp only [Prod.mk.injEq] at hy
    refine ⟨ys, n', hy.1, hy.2, hyl, fun j f hj => ?_⟩
    obtain ⟨ho, hk⟩ := hone_of hone j f hj
    have hjl : j < fs.size := (Array.getElem?_eq_some_iff.1 hj).1
    have hcell := hat j hjl
    have hv : cs'[j]? = some (cs'[j]'(by omega)) := List.getElem?_eq_getElem (by omega)
    have h1 := hf j f hj
    rw [ho, hk] at h1
    have hone' : (cs'.drop j).take 1 = [cs'[j]'(by omega)] := by
      rw [List.drop_eq_getElem_cons (by omega)]
      rfl
    rw [hone'] at h1
    have hys : ys[j]? = some (ys[j]'(by omega)) := List.getElem?_eq_getElem (by omega)
    refine ⟨_, _, ?_, hys, h1.trans hys⟩
    rw [← Go.Deep.add_add, hcell, hv]
end

theorem list_of {α : Type} (P : Nat → α → Prop) (d : α) : ∀ n, (∀ i, i < n → ∃ x, P i x) → ∃ l : List α, l.length = n ∧ ∀ i, i < n → P i (l.getD i d)
  | 0, _ => ⟨[], rfl, fun i hi => by omega⟩
  | n + 1, h => by
    obtain ⟨l, hl, hp⟩ := list_of P d n (fun i hi => h i (by omega))
    obtain ⟨x, hx⟩ := h n (by omega)
    refine ⟨l ++ [x], by simp [hl], fun i hi => ?_⟩
    by_cases hin : i < n
    · rw [getD_snoc_lt l x d (by omega)]; exact hp i hin
    · obtain rfl : i = n := by omega
      rw [← hl, getD_snoc_eq, hl]; exact hx

/-- A slice of structs of three ints reads as a list of triples. -/
theorem open_triples {H : Type} {enc : TypeId × Value → H} {P : Program} {W : World} {base : Nat} {t e i : TypeId} {f0 f1 f2 : Field} {v : Value} {d : DataW H} {p : List MemPlace} (ho : Value.okWide P W .any base t v)
    (ht : P.underlying t = some (.slice e)) (he : P.underlying e = some (.struct #[f0, f1, f2])) (hone : oneCellFields P #[f0, f1, f2] = true) (hC : P.cellsOf e = 3)
    (h0 : f0.type = i) (h1 : f1.type = i) (h2 : f2.type = i) (hi : P.underlying i = some (.int .i64)) (h : DataW.Trod enc P W 0 (fun _ => true) true t v d p) : ∃ l, DeedsAt W v l := by
  obtain ⟨a0, len, cap, rfl⟩ := okWide_slice ht ho
  obtain ⟨fuel, hf⟩ := h
  rcases open_slice_fields ht he hone hC hf with ⟨hcs, hx⟩ | ⟨a, len', cap', m, D, Pl, hcs, _, hl, hm, hmm, hx, hfs⟩
  · simp [Value.cells] at hcs
    obtain ⟨rfl, rfl, rfl⟩ := hcs
    exact ⟨[], none, 0, rfl, by simp, fun h => by simp at h⟩
  · simp [Value.cells] at hcs
    obtain ⟨rfl, rfl, rfl⟩ := hcs
    simp only [if_true] at hmm
    subst hmm
    have hm' := maxLen_le hm
    obtain ⟨b, off, spot⟩ := a
    have key : ∀ i, i < len → ∃ x : Deed, W.cell? ((⟨b, off, spot⟩ : Addr).add (i * 3)) = some (.int .i64 x.1) ∧ W.cell? ((⟨b, off, spot⟩ : Addr).add (i * 3 + 1)) = some (.int .i64 x.2.1) ∧ W.cell? ((⟨b, off, spot⟩ : Addr).add (i * 3 + 2)) = some (.int .i64 x.2.2) := by
      intro i hil
      obtain ⟨ys, n, _, _, _, hg⟩ := hfs i (by omega)
      obtain ⟨v0, y0, c0, _, t0⟩ := hg 0 f0 rfl
      obtain ⟨v1, y1, c1, _, t1⟩ := hg 1 f1 rfl
      obtain ⟨v2, y2, c2, _, t2⟩ := hg 2 f2 rfl
      rw [h0] at t0
      rw [h1] at t1
      rw [h2] at t2
      obtain ⟨n0, e0, _, _⟩ := DataW.trod_int hi t0
      obtain ⟨n1, e1, _, _⟩ := DataW.trod_int hi t1
      obtain ⟨n2, e2, _, _⟩ := DataW.trod_int hi t2
      simp only [List.cons.injEq, and_true] at e0 e1 e2
      subst e0 e1 e2
      exact ⟨(n0, n1, n2), c0, c1, c2⟩
    obtain ⟨l, hll, hlk⟩ := list_of (fun i (x : Deed) => W.cell? ((⟨b, off, spot⟩ : Addr).add (i * 3)) = some (.int .i64 x.1) ∧ W.cell? ((⟨b, off, spot⟩ : Addr).add (i * 3 + 1)) = some (.int .i64 x.2.1) ∧ W.cell? ((⟨b, off, spot⟩ : Addr).add (i * 3 + 2)) = some (.int .i64 x.2.2)) noDeed len key
    clear key
    subst hll
    refine ⟨l, some ⟨b, off, spot⟩, m, rfl, by omega, fun h0 => ?_⟩
    have hspot : spot = none := by
      obtain ⟨hx, _⟩ := hlk 0 h0
      simpa [Addr.add] using World.cell?_spot hx
    subst hspot
    refine ⟨b, off, rfl, fun j hj => ?_⟩
    have hs := hlk j hj
    rw [add_plain, add_plain, add_plain] at hs
    exact ⟨hs.1, hs.2.1, hs.2.2⟩

set_option maxRecDepth 100000 in
theorem open_deeds {H : Type} {enc : TypeId × Value → H} {W : World} {base : Nat} {v : Value} {d : DataW H} {p : List MemPlace} (ho : Value.okWide Try.prog W .any base 22 v)
    (h : DataW.Trod enc Try.prog W 0 (fun _ => true) true 22 v d p) : ∃ l, DeedsAt W v l :=
  open_triples ho Try.underlying22 Try.underlying43 (by kernel_rfl) (by kernel_rfl) rfl rfl rfl Try.underlying3 h

set_option maxRecDepth 100000 in
theorem open_deed {H : Type} {enc : TypeId × Value → H} {W : World} {base : Nat} {v : Value} {d : DataW H} {p : List MemPlace} (ho : Value.okWide Try.prog W .any base 43 v)
    (h : DataW.Trod enc Try.prog W 0 (fun _ => true) true 43 v d p) : ∃ x : Deed, v = deedV x := by
  obtain ⟨v0, v1, v2, y0, y1, y2, n, rfl, _, _, t0, t1, t2⟩ := Go.Joins.open_agg3 Try.underlying43 (by kernel_rfl) (by kernel_rfl) ho h
  obtain ⟨n0, e0, _, _⟩ := DataW.trod_int (show Try.prog.underlying _ = some (.int .i64) from Try.underlying3) t0
  obtain ⟨n1, e1, _, _⟩ := DataW.trod_int (show Try.prog.underlying _ = some (.int .i64) from Try.underlying3) t1
  obtain ⟨n2, e2, _, _⟩ := DataW.trod_int (show Try.prog.underlying _ = some (.int .i64) from Try.underlying3) t2
  simp only [List.cons.injEq, and_true] at e0 e1 e2
  subst e0 e1 e2
  exact ⟨(n0, n1, n2), rfl⟩

end Go.Proofs.Ytikcpfpeoofppaa

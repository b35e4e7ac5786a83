/- The map of the search: which levels are in it, and how they came about. -/
import Derived.Test.YtikcpfpeoofppaaSr
import Derived.Test.YtikcpfpeoofppaaProg
import Derived.Maps.OwnIn
import Derived.DeepKeys4
import Derived.KernelRfl
import Derived.Test.YtikcpfpeoofppaaRow
namespace Go.Proofs.Ytikcpfpeoofppaa
open Go.RowKit

theorem Try.keyedLev : Maps.Keyed Try.prog 66 :=
  Maps.Keyed.of_law (deep_law_laid Try.laidOut (m := 3) (by omega) (of_decide_eq_true (by kernel_rfl)) (by kernel_rfl) (by kernel_rfl))

def keyL (l : List Int) : Lit := .string (keyBytes [.int .i64 (l.getD 0 0), .int .i64 (l.getD 1 0), .int .i64 (l.getD 2 0), .int .i64 (l.getD 3 0)])

theorem wf_small {x : Int} (h : 0 ≤ x ∧ x ≤ 12) : (Lit.int .i64 x).wf = true := by
  have h1 : IntKind.i64.min = -9223372036854775808 := rfl
  have h2 : IntKind.i64.max = 9223372036854775807 := rfl
  simp [Lit.wf]
  omega

theorem keyOf_levV {a b c d : Int} (ha : 0 ≤ a ∧ a ≤ 12) (hb : 0 ≤ b ∧ b ≤ 12) (hc : 0 ≤ c ∧ c ≤ 12) (hd : 0 ≤ d ∧ d ≤ 12) :
    keyOf Try.prog 66 (levV a b c d) = some (.string (keyBytes [.int .i64 a, .int .i64 b, .int .i64 c, .int .i64 d])) := by
  obtain ⟨n, hn⟩ : ∃ n, Try.prog.types.size + 1 = n + 2 := ⟨Try.prog.types.size - 1, by
    have : decide (1 ≤ Try.prog.types.size) = true := by kernel_rfl
    have := of_decide_eq_true this
    omega⟩
  have hk : Try.prog.keyType 66 = true := by kernel_rfl
  have hc4 : Try.prog.cellsOf 66 = 4 := by kernel_rfl
  have hc1 : Try.prog.cellsOf 3 = 1 := by kernel_rfl
  have hu : Try.prog.underlying 66 = some (.array 4 3) := by kernel_rfl
  have hi : Try.prog.underlying 3 = some (.int .i64) := by kernel_rfl
  have wa := wf_small ha
  have wb := wf_small hb
  have wc := wf_small hc
  have wd := wf_small hd
  unfold keyOf levV
  rw [hu]
  simp only [hk, Value.formed, hu, hc4, hn]
  have h4 : List.range 4 = [0, 1, 2, 3] := rfl
  simp [Program.keyLits, hu, hi, hc4, hc1, wa, wb, wc, wd, h4, Value.cells]

theorem keyOf_pad {t l : List Int} (ht : Tvl t) (hl : Lev t l) : keyOf Try.prog 66 (pad l) = some (keyL l) := by
  have hb : ∀ j, 0 ≤ l.getD j 0 ∧ l.getD j 0 ≤ 12 := fun j => by
    by_cases hj : j < t.length
    · exact hl.bd ht j hj
    · rw [List.getD_eq_getElem?_getD, List.getElem?_eq_none (by have := hl.1; omega)]
      simp
  exact keyOf_levV (hb 0) (hb 1) (hb 2) (hb 3)

theorem pad_inj {t l m : List Int} (ht : Tvl t) (hl : Lev t l) (hm : Lev t m) (h : pad l = pad m) : l = m := by
  have h4 := ht.hi
  unfold pad levV at h
  simp only [Value.agg.injEq, Array.mk.injEq, List.cons.injEq, Value.int.injEq, true_and, and_true] at h
  obtain ⟨h0, h1, h2, h3⟩ := h
  refine lev_ext hl hm fun j hj => ?_
  have hc : j = 0 ∨ j = 1 ∨ j = 2 ∨ j = 3 := by omega
  rcases hc with rfl | rfl | rfl | rfl <;> assumption

theorem keyL_inj {t l m : List Int} (ht : Tvl t) (hl : Lev t l) (hm : Lev t m) (h : keyL l = keyL m) : l = m :=
  pad_inj ht hl hm (Try.keyedLev.inj (keyOf_pad ht hl) (by rw [h]; exact keyOf_pad ht hm))
theorem keyL_is (l : List Int) : WideAt.IsKeyLit (keyL l) := trivial

/-- How levels came about: the last deed, and the levels in front of it. -/
def lastD (e : Ent) : Deed := e.2.1.getLastD noDeed
def cameV (d : Deed) (p : List Int) : Value := .agg #[.int .i64 d.1, .int .i64 d.2.1, .int .i64 d.2.2, .int .i64 (p.getD 0 0), .int .i64 (p.getD 1 0), .int .i64 (p.getD 2 0), .int .i64 (p.getD 3 0)]
/-- An element is read as it is. -/
def asIs (v : Value) : Option (DataW Value × List MemPlace) := some (.held v, [])
def mapFrom (es : List Ent) (D : DataW Value) : DataW Value := es.foldl (fun D e => D.put (keyL e.1) (.held (cameV (lastD e) e.2.2))) D
def mapD (es : List Ent) : DataW Value := mapFrom es (.map [])

theorem mapD_snoc (es : List Ent) (e : Ent) : mapD (es ++ [e]) = (mapD es).put (keyL e.1) (.held (cameV (lastD e) e.2.2)) := by
  unfold mapD mapFrom; rw [List.foldl_append]; rfl
theorem mapFrom_isMap : ∀ (es : List Ent) (D : DataW Value), Maps.IsMap D → Maps.IsMap (mapFrom es D)
  | [], _D, h => h
  | _e :: es, _D, h => mapFrom_isMap es _ (h.put _ _)

theorem has_from {t n : List Int} (ht : Tvl t) (hn : Lev t n) : ∀ (es : List Ent) (D : DataW Value), Maps.IsMap D → (∀ e ∈ es, Lev t e.1) →
    Maps.has (mapFrom es D) (keyL n) = (Maps.has D (keyL n) || decide (n ∈ es.map (fun e : Ent => e.1)))
  | [], D, _, _ => by simp [mapFrom]
  | e :: es, D, hD, h => by
    have ih := has_from ht hn es (D.put (keyL e.1) (.held (cameV (lastD e) e.2.2))) (hD.put _ _) (fun x hx => h x (by simp [hx]))
    rw [show mapFrom (e :: es) D = mapFrom es (D.put (keyL e.1) (.held (cameV (lastD e) e.2.2))) from rfl, ih]
    by_cases he : n = e.1
    · subst he
      rw [Maps.has_put_same hD (keyL_is _)]
      rw [Bool.true_or, decide_eq_true (by simp), Bool.or_true]
    · rw [Maps.has_put_other (fun h' => he (keyL_inj ht hn (h e (by simp)) h'))]
      congr 1
      rw [Bool.eq_iff_iff, decide_eq_true_iff, decide_eq_true_iff, List.map_cons, List.mem_cons]
      exact ⟨fun h' => .inr h', fun h' => h'.resolve_left he⟩
theorem has_mapD {t n : List Int} (ht : Tvl t) (hn : Lev t n) {es : List Ent} (h : ∀ e ∈ es, Lev t e.1) : Maps.has (mapD es) (keyL n) = decide (n ∈ es.map (fun e : Ent => e.1)) := by
  unfold mapD
  rw [has_from ht hn es _ Maps.isMap_empty h, show Maps.has (DataW.map ([] : List (Lit × DataW Value))) (keyL n) = false from rfl, Bool.false_or]

theorem at_other {t n : List Int} (ht : Tvl t) (hn : Lev t n) (z : DataW Value) : ∀ (es : List Ent) (D : DataW Value), (∀ e ∈ es, Lev t e.1) → (∀ e ∈ es, e.1 ≠ n) → (mapFrom es D).atKey (keyL n) z = D.atKey (keyL n) z
  | [], D, _, _ => rfl
  | e :: es, D, h, hne => by
    have ih := at_other ht hn z es (D.put (keyL e.1) (.held (cameV (lastD e) e.2.2))) (fun x hx => h x (by simp [hx])) (fun x hx => hne x (by simp [hx]))
    rw [show mapFrom (e :: es) D = mapFrom es (D.put (keyL e.1) (.held (cameV (lastD e) e.2.2))) from rfl, ih]
    exact Maps.atKey_put_other (fun h' => hne e (by simp) (keyL_inj ht hn (h e (by simp)) h').symm) _ _
theorem at_from {t : List Int} (ht : Tvl t) (z : DataW Value) : ∀ (es : List Ent) (D : DataW Value), Maps.IsMap D → (∀ e ∈ es, Lev t e.1) → es.Pairwise (fun a b => a.1 ≠ b.1) → ∀ e ∈ es, (mapFrom es D).atKey (keyL e.1) z = .held (cameV (lastD e) e.2.2)
  | [], D, _, _, _, e, he => by simp at he
  | x :: es, D, hD, h, hp, e, he => by
    rw [List.pairwise_cons] at hp
    rw [show mapFrom (x :: es) D = mapFrom es (D.put (keyL x.1) (.held (cameV (lastD x) x.2.2))) from rfl]
    rcases List.mem_cons.1 he with rfl | he
    · rw [at_other ht (h e (by simp)) z es _ (fun y hy => h y (by simp [hy])) (fun y hy => (hp.1 y hy).symm)]
      exact Maps.atKey_put_same hD (keyL_is _) _ _
    · exact at_from ht z es _ (hD.put _ _) (fun y hy => h y (by simp [hy])) hp.2 e he
theorem at_mapD {t l : List Int} (ht : Tvl t) {es : List Ent} (h : Good t l es) (z : DataW Value) {e : Ent} (he : e ∈ es) : (mapD es).atKey (keyL e.1) z = .held (cameV (lastD e) e.2.2) :=
  at_from ht z es _ Maps.isMap_empty h.lev h.nodup e he

end Go.Proofs.Ytikcpfpeoofppaa

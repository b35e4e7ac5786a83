/- Texts of this claim, laid together: Wp, Wo. -/
import Derived.Test.YtaakefjblldccaaSi

/- Plain mathematics: awards in whole numbers. -/
namespace Go.Proofs.Ytaakefjblldccaa
open Go.RowKit

theorem red_quo {x Q : Int} (hQ : 1 ≤ Q) : (red x Q).1 / (red x Q).2 = x / Q := by
  obtain ⟨g, hg, e1, e2, h3, _⟩ := red_spec x Q hQ
  generalize red x Q = a at *
  rw [e1, e2, Int.mul_ediv_mul_of_pos _ _ (by omega)]
theorem red_rem {x Q : Int} (hQ : 1 ≤ Q) : ((red x Q).1 % (red x Q).2) * Q = (x % Q) * (red x Q).2 := by
  obtain ⟨g, hg, e1, e2, h3, _⟩ := red_spec x Q hQ
  generalize red x Q = a at *
  have h : x % Q = g * (a.1 % a.2) := by rw [e1, e2, Int.mul_emod_mul_of_pos _ _ (by omega)]
  rw [h, e2]
  simp only [Int.mul_assoc, Int.mul_left_comm, Int.mul_comm]

theorem sumf_map (g : Int → Int) : ∀ c : List Int, (c.map g).sum = sumf g c
  | [] => rfl
  | x :: c => by rw [List.map_cons, List.sum_cons, sumf_map g c]; rfl
theorem tot_map (g : Int → Int) (c : List Int) : tot (c.map g) = sumf g c := by
  rw [tot_sumf]
  induction c with
  | nil => rfl
  | cons x c ih => simp only [List.map_cons, sumf, id]; rw [ih]
theorem sumf_divmod (f : Int → Int) (Q : Int) : ∀ c : List Int, sumf f c = sumf (fun x => f x / Q) c * Q + sumf (fun x => f x % Q) c
  | [] => by simp [sumf]
  | x :: c => by
    have ih := sumf_divmod f Q c
    have := Int.emod_add_mul_ediv (f x) Q
    simp only [sumf]
    rw [ih, Int.add_mul]
    have h2 : f x / Q * Q = Q * (f x / Q) := Int.mul_comm _ _
    omega

/-- The whole parts, and what is left over. -/
def qsL (l : List Rat2) : List Int := l.map fun x => x.1 / x.2
def frL (l : List Rat2) : List Rat2 := l.map fun x => (x.1 % x.2, x.2)
structure Whl (n : Int) (l : List Rat2) (G : List Int) (Q : Int) : Prop where
  rep : Rep Q (frL l) G
  len : G.length = l.length
  bd : ∀ i, i < G.length → 0 ≤ G.getD i 0 ∧ G.getD i 0 < Q
  sum : G.sum = (n - tot (qsL l)) * Q
  cvl : Cvl (qsL l)
  lo : 0 ≤ n - tot (qsL l)
  hi : n - tot (qsL l) ≤ l.length
  mod : Mod (frL l)
  pos : ∀ i, i < l.length → 0 ≤ (l.getD i (0, 0)).1 ∧ (l.getD i (0, 0)).1 ≤ 10000000 ∧ 1 ≤ (l.getD i (0, 0)).2 ∧ (l.getD i (0, 0)).2 ≤ 10000

theorem sum_nonneg : ∀ (l : List Int), (∀ x ∈ l, 0 ≤ x) → 0 ≤ l.sum
  | [], _ => by simp
  | x :: l, h => by
    have h1 := h x (by simp)
    have h2 := sum_nonneg l (fun y hy => h y (by simp [hy]))
    rw [List.sum_cons]; omega

theorem whl_of {c : List Int} {n : Int} {l : List Rat2} {f : Int → Int} {Q : Int} (hc : Cvl c) (h : Shr c n l f Q) (hn : 0 ≤ n) : Whl n l (c.map fun x => f x % Q) Q := by
  have hQ := h.hQ
  have ho := shr_okv h
  have hm := okv_mod hc ho
  have hl : l.length = c.length := ho.1
  have e1 : qsL l = c.map fun x => f x / Q := by
    unfold qsL
    rw [h.aw, List.map_map]
    apply List.map_congr_left
    intro x _
    exact red_quo hQ
  have hs := sumf_divmod f Q c
  rw [h.sum] at hs
  have hsum : (c.map fun x => f x % Q).sum = (n - tot (qsL l)) * Q := by
    rw [sumf_map, e1, tot_map, Int.sub_mul]
    omega
  have hb : ∀ i, i < (c.map fun x => f x % Q).length → 0 ≤ (c.map fun x => f x % Q).getD i 0 ∧ (c.map fun x => f x % Q).getD i 0 < Q := fun i hi => by
    rw [List.length_map] at hi
    have : (c.map fun x => f x % Q).getD i 0 = f (c.getD i 0) % Q := by simp [List.getD_eq_getElem?_getD, hi]
    rw [this]
    exact ⟨Int.emod_nonneg _ (by omega), Int.emod_lt_of_pos _ (by omega)⟩
  have hall : ∀ x ∈ (c.map fun x => f x % Q), 0 ≤ x ∧ x ≤ Q := fun x hx => by
    obtain ⟨y, _, rfl⟩ := List.mem_map.1 hx
    have h1 := Int.emod_nonneg (f y) (show Q ≠ 0 by omega)
    have h2 := Int.emod_lt_of_pos (f y) (show 0 < Q by omega)
    omega
  have s0 := sum_nonneg _ (fun x hx => (hall x hx).1)
  have s1 := sum_take_le _ (c.map fun x => f x % Q).length (fun x hx => (hall x hx).2) (by omega)
  rw [List.take_length, hsum, List.length_map] at s1
  rw [hsum] at s0
  have k1 : n - tot (qsL l) ≤ (c.length : Int) := Int.le_of_mul_le_mul_right s1 (by omega)
  have k0 : 0 ≤ n - tot (qsL l) := by
    by_cases hneg : n - tot (qsL l) < 0
    · have : (n - tot (qsL l)) * Q ≤ (-1) * Q := Int.mul_le_mul_of_nonneg_right (by omega) (by omega)
      omega
    · omega
  refine ⟨⟨by simp [frL, hl], hQ, fun i hi => ?_, fun i hi => ?_⟩, by simp [hl], hb, hsum, ⟨?_, ?_, ?_⟩, k0, by omega, ?_, fun i hi => ?_⟩
  · rw [List.length_map] at hi
    have : (frL l).getD i (0, 0) = ((l.getD i (0, 0)).1 % (l.getD i (0, 0)).2, (l.getD i (0, 0)).2) := by simp [frL, List.getD_eq_getElem?_getD, show i < l.length by omega]
    rw [this]
    exact (ho.2 i hi).1
  · rw [List.length_map] at hi
    have e2 : (frL l).getD i (0, 0) = ((l.getD i (0, 0)).1 % (l.getD i (0, 0)).2, (l.getD i (0, 0)).2) := by simp [frL, List.getD_eq_getElem?_getD, show i < l.length by omega]
    have e3 : (c.map fun x => f x % Q).getD i 0 = f (c.getD i 0) % Q := by simp [List.getD_eq_getElem?_getD, hi]
    rw [e2, e3, h.aw, getD_map0 hi]
    exact red_rem hQ
  · rw [e1, List.length_map]; exact hc.lo
  · rw [e1, List.length_map]; exact hc.hi
  · rw [e1]
    intro y hy
    obtain ⟨x, hx, rfl⟩ := List.mem_map.1 hy
    have h1 := h.lo x hx
    have h2 := h.hi x hx
    have h3 := hc.holds x hx
    refine ⟨Int.ediv_nonneg h1 (by omega), ?_⟩
    have := Int.ediv_le_ediv (show 0 < Q by omega) h2
    rw [Int.mul_ediv_cancel _ (by omega)] at this
    omega
  · intro y hy
    obtain ⟨x, hx, rfl⟩ := List.mem_map.1 hy
    have h1 := hm x hx
    have h2 := Int.emod_nonneg x.1 (show x.2 ≠ 0 by omega)
    have h3 := Int.emod_lt_of_pos x.1 (show 0 < x.2 by omega)
    exact ⟨by simp only; omega, by simp only; omega, h1.2.2.1, h1.2.2.2⟩
  · obtain ⟨h1, h2, h3, h4⟩ := ho.2 i (by omega)
    have hb := hc.holds _ (mem_getD (show i < c.length by omega))
    have h5 : c.getD i 0 * (l.getD i (0, 0)).2 ≤ 1000 * (l.getD i (0, 0)).2 := Int.mul_le_mul_of_nonneg_right (by omega) (by omega)
    omega

end Go.Proofs.Ytaakefjblldccaa

/- Contract: awards in whole numbers (the program). -/
namespace Go.Proofs.Ytaakefjblldccaa
open Go.RowKit

theorem row_block {W : World} {B g n cap sz : Nat} {e : TypeId} {xs : List Value} (h : W.ownsRow B e sz (.slice (some ⟨g, 0, none⟩) n cap) n xs) : ∃ cur, B ≤ g ∧ W.heap[g]? = some (.cells cur e (0, 0)) := by
  rcases h.2 with ⟨h1, _⟩ | ⟨g', cap', cur, h1, h2, h3, _⟩
  · cases h1
  · simp only [Value.slice.injEq, Option.some.injEq, Addr.mk.injEq] at h1
    obtain ⟨⟨rfl, -⟩, -, -⟩ := h1
    exact ⟨cur, h2, h3⟩
theorem row_ne {W : World} {B B' g g' n n' cap cap' sz sz' : Nat} {e e' : TypeId} {xs xs' : List Value} (h : W.ownsRow B e sz (.slice (some ⟨g, 0, none⟩) n cap) n xs) (h' : W.ownsRow B' e' sz' (.slice (some ⟨g', 0, none⟩) n' cap') n' xs') (hne : e ≠ e') : g ≠ g' := by
  rintro rfl
  obtain ⟨c, _, h1⟩ := row_block h
  obtain ⟨c', _, h2⟩ := row_block h'
  rw [h1] at h2
  simp only [Option.some.injEq, Obj.cells.injEq] at h2
  exact hne h2.2.1
theorem row_ne_box {W : World} {B g n cap sz Bx : Nat} {e e' : TypeId} {xs : List Value} {cs : Array Value} (h : W.ownsRow B e sz (.slice (some ⟨g, 0, none⟩) n cap) n xs) (h' : W.heap[Bx]? = some (.cells cs e' (0, 0))) (hne : e ≠ e') : g ≠ Bx := by
  rintro rfl
  obtain ⟨c, _, h1⟩ := row_block h
  rw [h1] at h'
  simp only [Option.some.injEq, Obj.cells.injEq] at h'
  exact hne h'.2.1
theorem row_keep {W W' : World} {B g n cap sz : Nat} {e : TypeId} {xs : List Value} (h : W.ownsRow B e sz (.slice (some ⟨g, 0, none⟩) n cap) n xs) (hk : W'.heap[g]? = W.heap[g]?) : W'.ownsRow B e sz (.slice (some ⟨g, 0, none⟩) n cap) n xs := by
  refine ⟨h.1, ?_⟩
  rcases h.2 with h1 | ⟨g', cap', cur, h1, h2, h3, h4⟩
  · exact .inl h1
  · simp only [Value.slice.injEq, Option.some.injEq, Addr.mk.injEq] at h1
    obtain ⟨⟨rfl, -⟩, -, rfl⟩ := h1
    exact .inr ⟨_, _, cur, rfl, h2, hk.trans h3, h4⟩

/-- The box of the awards, the awards, what is given out, and the order. -/
structure WS (n0 B8 b cap go gr n : Nat) (R : List Rat2) (out ord : List Int) (W : World) : Prop where
  box : W.heap[B8]? = some (.cells #[.slice (some ⟨b, 0, none⟩) n cap] 30 (0, 0))
  row : W.ownsRow n0 23 2 (.slice (some ⟨b, 0, none⟩) n cap) n (flatR R)
  rout : W.ownsRow n0 3 1 (.slice (some ⟨go, 0, none⟩) n n) n (out.map (Value.int .i64))
  rord : W.ownsRow n0 3 1 (.slice (some ⟨gr, 0, none⟩) n n) n (ord.map (Value.int .i64))
  ne : go ≠ gr
  lr : R.length = n
  lo : out.length = n
  ld : ord.length = n

theorem WS.nes {n0 B8 b cap go gr n : Nat} {R : List Rat2} {out ord : List Int} {W : World} (h : WS n0 B8 b cap go gr n R out ord W) : b ≠ B8 ∧ go ≠ B8 ∧ gr ≠ B8 ∧ b ≠ go ∧ b ≠ gr :=
  ⟨row_ne_box h.row h.box (by decide), row_ne_box h.rout h.box (by decide), row_ne_box h.rord h.box (by decide), row_ne h.row h.rout (by decide), row_ne h.row h.rord (by decide)⟩
theorem WS.lt {n0 B8 b cap go gr n : Nat} {R : List Rat2} {out ord : List Int} {W : World} (h : WS n0 B8 b cap go gr n R out ord W) : B8 < W.heap.size ∧ b < W.heap.size ∧ go < W.heap.size ∧ gr < W.heap.size ∧ n0 ≤ b ∧ n0 ≤ go ∧ n0 ≤ gr := by
  obtain ⟨_, h1, h2⟩ := row_block h.row
  obtain ⟨_, h3, h4⟩ := row_block h.rout
  obtain ⟨_, h5, h6⟩ := row_block h.rord
  exact ⟨(Array.getElem?_eq_some_iff.1 h.box).1, (Array.getElem?_eq_some_iff.1 h2).1, (Array.getElem?_eq_some_iff.1 h4).1, (Array.getElem?_eq_some_iff.1 h6).1, h1, h3, h5⟩
theorem WS.block {n0 B8 b cap go gr n : Nat} {R : List Rat2} {out ord : List Int} {W W' : World} (h : WS n0 B8 b cap go gr n R out ord W) (hk : ∀ k, k = B8 ∨ k = b ∨ k = go ∨ k = gr → W'.heap[k]? = W.heap[k]?) : WS n0 B8 b cap go gr n R out ord W' :=
  ⟨(hk _ (.inl rfl)).trans h.box, row_keep h.row (hk _ (.inr (.inl rfl))), row_keep h.rout (hk _ (.inr (.inr (.inl rfl)))), row_keep h.rord (hk _ (.inr (.inr (.inr rfl)))), h.ne, h.lr, h.lo, h.ld⟩
theorem WS.below {n0 B8 b cap go gr n : Nat} {R : List Rat2} {out ord : List Int} {W W' : World} (h : WS n0 B8 b cap go gr n R out ord W) (hb : Below W.heap.size W W') : WS n0 B8 b cap go gr n R out ord W' :=
  h.block fun k hk => hb.block k (by
    obtain ⟨h1, h2, h3, h4, _⟩ := h.lt
    rcases hk with rfl | rfl | rfl | rfl <;> assumption)
theorem WS.setOut {n0 B8 b cap go gr n : Nat} {R : List Rat2} {out ord : List Int} {W : World} (h : WS n0 B8 b cap go gr n R out ord W) (k : Nat) (x : Int) : WS n0 B8 b cap go gr n R (out.set k x) ord (W.setCell ⟨go, k, none⟩ (.int .i64 x)) := by
  obtain ⟨h1, h2, h3, h4, h5⟩ := h.nes
  have hk : ∀ j, j ≠ go → (W.setCell ⟨go, k, none⟩ (.int .i64 x)).heap[j]? = W.heap[j]? := fun j hj => Below.heap_setCell _ _ _ j hj
  refine ⟨(hk _ (Ne.symm h2)).trans h.box, row_keep h.row (hk _ h4), ?_, row_keep h.rord (hk _ (Ne.symm h.ne)), h.ne, h.lr, by rw [List.length_set]; exact h.lo, h.ld⟩
  rw [List.map_set]
  exact (h.rout.stored k (.int .i64 x)).1
theorem WS.setOrd {n0 B8 b cap go gr n : Nat} {R : List Rat2} {out ord : List Int} {W : World} (h : WS n0 B8 b cap go gr n R out ord W) (k : Nat) (x : Int) : WS n0 B8 b cap go gr n R out (ord.set k x) (W.setCell ⟨gr, k, none⟩ (.int .i64 x)) := by
  obtain ⟨h1, h2, h3, h4, h5⟩ := h.nes
  have hk : ∀ j, j ≠ gr → (W.setCell ⟨gr, k, none⟩ (.int .i64 x)).heap[j]? = W.heap[j]? := fun j hj => Below.heap_setCell _ _ _ j hj
  refine ⟨(hk _ (Ne.symm h3)).trans h.box, row_keep h.row (hk _ h5), row_keep h.rout (hk _ h.ne), ?_, h.ne, h.lr, h.lo, by rw [List.length_set]; exact h.ld⟩
  rw [List.map_set]
  exact (h.rord.stored k (.int .i64 x)).1
theorem flatR_set1 : ∀ (l : List Rat2) (k : Nat) (x : Int), k < l.length → flatR (l.set k (x, (l.getD k (0, 0)).2)) = (flatR l).set (k * 2) (.int .i64 x)
  | y :: l, 0, x, _ => by simp [flatR, ratC]
  | y :: l, k + 1, x, h => by
    have ih := flatR_set1 l k x (by simpa using h)
    have e : ∀ l : List Rat2, flatR (y :: l) = ratC y ++ flatR l := fun l => by simp [flatR]
    rw [List.set_cons_succ, List.getD_cons_succ, e, e, ih]
    simp [ratC, show (k + 1) * 2 = k * 2 + 2 by omega]
theorem WS.setR {n0 B8 b cap go gr n : Nat} {R : List Rat2} {out ord : List Int} {W : World} (h : WS n0 B8 b cap go gr n R out ord W) (k : Nat) (x : Int) (hk : k < n) : WS n0 B8 b cap go gr n (R.set k (x, (R.getD k (0, 0)).2)) out ord (W.setCell ⟨b, k * 2, none⟩ (.int .i64 x)) := by
  obtain ⟨h1, h2, h3, h4, h5⟩ := h.nes
  have hb : ∀ j, j ≠ b → (W.setCell ⟨b, k * 2, none⟩ (.int .i64 x)).heap[j]? = W.heap[j]? := fun j hj => Below.heap_setCell _ _ _ j hj
  refine ⟨(hb _ (Ne.symm h1)).trans h.box, ?_, row_keep h.rout (hb _ (Ne.symm h4)), row_keep h.rord (hb _ (Ne.symm h5)), h.ne, by rw [List.length_set]; exact h.lr, h.lo, h.ld⟩
  rw [flatR_set1 R k x (by rw [h.lr]; exact hk)]
  exact (h.row.stored (k * 2) (.int .i64 x)).1

/-- What a round reads. -/
theorem WS.facts {n0 B8 b cap go gr n : Nat} {R : List Rat2} {out ord : List Int} {W : World} (h : WS n0 B8 b cap go gr n R out ord W) {k : Nat} (hk : k < n) :
    W.cell? ⟨B8, 0, none⟩ = some (.slice (some ⟨b, 0, none⟩) n cap) ∧ W.cell? ⟨b, k * 2, none⟩ = some (.int .i64 (R.getD k (0, 0)).1) ∧ W.cell? ⟨b, k * 2 + 1, none⟩ = some (.int .i64 (R.getD k (0, 0)).2) ∧
    W.cell? ⟨go, k, none⟩ = some (.int .i64 (out.getD k 0)) ∧ W.cell? ⟨gr, k, none⟩ = some (.int .i64 (ord.getD k 0)) ∧ W.frozen? ⟨b, k * 2, none⟩ = false ∧ W.frozen? ⟨go, k, none⟩ = false ∧ W.frozen? ⟨gr, k, none⟩ = false := by
  have hb := h.box
  obtain ⟨e1, e2⟩ := flatR_at R k (by rw [h.lr]; exact hk)
  refine ⟨by simp [World.cell?, hb], (h.row.cellAt _ (by omega)).trans e1, (h.row.cellAt _ (by omega)).trans e2, ?_, ?_, h.row.frozenAt _, h.rout.frozenAt _, h.rord.frozenAt _⟩
  · rw [h.rout.cellAt k (by omega)]; simp [List.getD_eq_getElem?_getD, h.lo, hk]
  · rw [h.rord.cellAt k (by omega)]; simp [List.getD_eq_getElem?_getD, h.ld, hk]

end Go.Proofs.Ytaakefjblldccaa

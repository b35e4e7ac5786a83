/- Texts of this claim, laid together: Rk, Rs. -/
import Derived.Test.YtdfkaijeppdhaaaGreatDoorZHq34
import Derived.Deep.RegionLaw
import Derived.Deep.RegionHeld3
import Derived.BigQuiet
import Derived.Deep.QuietTactic

/- Contract of the reference: Book. -/
namespace Go.Proofs.YtdfkaijeppdhaaaGreatDoor
open Go.RowKit Go.Shelf
/-- A post of the reference, to be read. -/
def RfAt (w : World) (P : Nat) (n : Int) (vs : Nat → Value) (b : Book) : Prop :=
  w.heap[P]? = some (.cells #[.int .i64 n, vs 0, vs 1, vs 2, vs 3] 54 (0, 0)) ∧ ∀ i, i < 4 → EntsAt w (vs i) (b i)
theorem RfAt.lt {w : World} {P : Nat} {n : Int} {vs : Nat → Value} {b : Book} (h : RfAt w P n vs b) : P < w.heap.size := (Array.getElem?_eq_some_iff.1 h.1).1
theorem RfAt.below {w w' : World} {P : Nat} {n : Int} {vs : Nat → Value} {b : Book} (h : RfAt w P n vs b) (hb : Below w.heap.size w w') : RfAt w' P n vs b :=
  ⟨(hb.block _ h.lt).trans h.1, fun i hi => (h.2 i hi).below hb⟩
theorem RfAt.cell {w : World} {P : Nat} {n : Int} {vs : Nat → Value} {b : Book} (h : RfAt w P n vs b) {i : Nat} (hi : i < 4) : w.cell? ⟨P, 1 + i, none⟩ = some (vs i) := by
  rcases (show i = 0 ∨ i = 1 ∨ i = 2 ∨ i = 3 by omega) with rfl | rfl | rfl | rfl <;> exact heap_cell h.1 rfl
theorem EntsAt.shape {w : World} {v : Value} {l : List Ent} (h : EntsAt w v l) : ∃ a cap, v = .slice a l.length cap := by
  obtain ⟨a, cap, rfl, _⟩ := h
  exact ⟨a, cap, rfl⟩
/-- An entry of a list. -/
theorem EntsAt.entry {w : World} {v : Value} {l : List Ent} (h : EntsAt w v l) {k : Nat} (hk : k < l.length) : ∃ g off cap, v = .slice (some ⟨g, off, none⟩) l.length cap ∧
    w.cell? ⟨g, off + k * 4, none⟩ = some (.int .i64 (ePost (l.getD k noE))) ∧ w.cell? ⟨g, off + k * 4 + 1, none⟩ = some (.int .i64 (eNum (l.getD k noE))) ∧
    w.cell? ⟨g, off + k * 4 + 2, none⟩ = some (.int .i64 (eCnt (l.getD k noE))) ∧ w.cell? ⟨g, off + k * 4 + 3, none⟩ = some (.string (eLine (l.getD k noE))) := by
  obtain ⟨a, cap, rfl, _, h⟩ := h
  obtain ⟨g, off, rfl, hc⟩ := h (by omega)
  have hg : l.getD k noE = l[k] := by rw [List.getD_eq_getElem?_getD, List.getElem?_eq_getElem hk]; rfl
  refine ⟨g, off, cap, rfl, ?_, ?_, ?_, ?_⟩
  · exact hc k 0 _ (by omega) (by rw [rowE_at l k 0 hk (by omega), hg]; rfl)
  · exact hc k 1 _ (by omega) (by rw [rowE_at l k 1 hk (by omega), hg]; rfl)
  · exact hc k 2 _ (by omega) (by rw [rowE_at l k 2 hk (by omega), hg]; rfl)
  · exact hc k 3 _ (by omega) (by rw [rowE_at l k 3 hk (by omega), hg]; rfl)

/-- The count that is next in a list. -/
def nxC (b : Book) (nx : Nat → Nat) (i : Nat) : Int := eCnt ((b i).getD (nx i) noE)
/-- The least one among the first k lists. -/
def LeastP (b : Book) (nx : Nat → Nat) (k : Nat) (l : Value) : Prop :=
  (l = .int .i64 (-1) ∧ ∀ j, j < k → (b j).length ≤ nx j) ∨
  ∃ m : Nat, m < k ∧ l = .int .i64 m ∧ nx m < (b m).length ∧ ∀ j, j < k → j ≠ m → nx j < (b j).length → nxC b nx m < nxC b nx j ∨ (nxC b nx m = nxC b nx j ∧ m < j)
/-- What Book has between two rounds. -/
structure BkI (w : World) (nx : Nat → Nat) (out : List Ent) (o : Value) (wr : World) : Prop where
  row : wr.ownsRow (w.heap.size + 1) 43 4 o out.length (rowE out)
  nxt : wr.heap[w.heap.size]? = some (.cells #[.int .i64 (nx 0 : Nat), .int .i64 (nx 1 : Nat), .int .i64 (nx 2 : Nat), .int .i64 (nx 3 : Nat)] 34 (0, 0))
  below : Below w.heap.size w wr
theorem BkI.cell {w wr : World} {nx : Nat → Nat} {out : List Ent} {o : Value} (h : BkI w nx out o wr) {i : Nat} (hi : i < 4) : wr.cell? ⟨w.heap.size, i, none⟩ = some (.int .i64 (nx i : Nat)) := by
  rcases (show i = 0 ∨ i = 1 ∨ i = 2 ∨ i = 3 by omega) with rfl | rfl | rfl | rfl <;> exact heap_cell h.nxt rfl
theorem BkI.frozen {w wr : World} {nx : Nat → Nat} {out : List Ent} {o : Value} (h : BkI w nx out o wr) (i : Nat) : wr.frozen? ⟨w.heap.size, i, none⟩ = false := by simp [World.frozen?, h.nxt]
theorem BkI.lt {w wr : World} {nx : Nat → Nat} {out : List Ent} {o : Value} (h : BkI w nx out o wr) : w.heap.size < wr.heap.size := (Array.getElem?_eq_some_iff.1 h.nxt).1
theorem BkI.drewN {w wr : World} {nx : Nat → Nat} {out : List Ent} {o : Value} (h : BkI w nx out o wr) (q : Nat) : BkI w nx out o (wr.drewN q) :=
  ⟨own_below h.row (belowD (Below.refl wr.heap.size wr) q), h.nxt, belowD h.below q⟩
theorem own_set {X : World} {base b j : Nat} {e : TypeId} {sz : Nat} {v u : Value} {n : Nat} {xs : List Value} (h : X.ownsRow base e sz v n xs) (hb : b < base) : (X.setCell ⟨b, j, none⟩ u).ownsRow base e sz v n xs := by
  refine ⟨h.1, ?_⟩
  rcases h.2 with hn | ⟨g, cap, cur, hv, hbg, hg, hrest⟩
  · exact .inl hn
  · exact .inr ⟨g, cap, cur, hv, hbg, (Below.heap_setCell _ _ _ _ (by show g ≠ b; omega)).trans hg, hrest⟩
theorem BkI.next {w W7 : World} {nx : Nat → Nat} {out : List Ent} {v' : Value} {m : Nat} (hm : m < 4) (hrow : W7.ownsRow (w.heap.size + 1) 43 4 v' out.length (rowE out))
    (hnxt : W7.heap[w.heap.size]? = some (.cells #[.int .i64 (nx 0 : Nat), .int .i64 (nx 1 : Nat), .int .i64 (nx 2 : Nat), .int .i64 (nx 3 : Nat)] 34 (0, 0))) (hb : Below w.heap.size w W7) :
    BkI w (setNx nx m (nx m + 1)) out v' (W7.setCell ⟨w.heap.size, m, none⟩ (.int .i64 ((nx m : Nat) + 1 : Int))) := by
  refine ⟨own_set hrow (by omega), ?_, hb.setCell (p := ⟨w.heap.size, m, none⟩) (Nat.le_refl _) _⟩
  rw [setCell_four hnxt]
  rcases (show m = 0 ∨ m = 1 ∨ m = 2 ∨ m = 3 by omega) with rfl | rfl | rfl | rfl <;> rfl
theorem LeastP.skip {b : Book} {nx : Nat → Nat} {k : Nat} {l : Value} (h : LeastP b nx k l) (hk : ¬ nx k < (b k).length) : LeastP b nx (k + 1) l := by
  rcases h with ⟨rfl, hall⟩ | ⟨m, hm, rfl, hml, hmin⟩
  · refine .inl ⟨rfl, fun j hj => ?_⟩
    by_cases e : j = k
    · subst e; omega
    · exact hall j (by omega)
  · refine .inr ⟨m, by omega, rfl, hml, fun j hj hne hl => ?_⟩
    by_cases e : j = k
    · subst e; exact absurd hl hk
    · exact hmin j (by omega) hne hl
theorem LeastP.turn {b : Book} {nx : Nat → Nat} {k m : Nat} (hmin : ∀ j, j < k → j ≠ m → nx j < (b j).length → nxC b nx m < nxC b nx j ∨ (nxC b nx m = nxC b nx j ∧ m < j)) (hk : nx k < (b k).length) (hlt : nxC b nx k < nxC b nx m) : LeastP b nx (k + 1) (.int .i64 k) := by
  refine .inr ⟨k, by omega, rfl, hk, fun j hj hne hl => .inl ?_⟩
  by_cases e : j = m
  · subst e; exact hlt
  · rcases hmin j (by omega) e hl with h | h <;> omega
theorem LeastP.stay {b : Book} {nx : Nat → Nat} {k m : Nat} (hm : m < k) (hml : nx m < (b m).length) (hmin : ∀ j, j < k → j ≠ m → nx j < (b j).length → nxC b nx m < nxC b nx j ∨ (nxC b nx m = nxC b nx j ∧ m < j)) (hge : ¬ nxC b nx k < nxC b nx m) : LeastP b nx (k + 1) (.int .i64 m) := by
  refine .inr ⟨m, by omega, rfl, hml, fun j hj hne hl => ?_⟩
  by_cases e : j = k
  · subst e
    by_cases e2 : nxC b nx m = nxC b nx j
    · exact .inr ⟨e2, hm⟩
    · exact .inl (by omega)
  · exact hmin j (by omega) hne hl

end Go.Proofs.YtdfkaijeppdhaaaGreatDoor

/- Contract of the reference: SameEntries. -/
namespace Go.Proofs.YtdfkaijeppdhaaaGreatDoor
open Go.RowKit Go.Shelf
theorem neq_run (x y : Ent) (W : World) : (binOp .neq 43 (.agg #[.int .i64 (ePost x), .int .i64 (eNum x), .int .i64 (eCnt x), .string (eLine x)]) (.agg #[.int .i64 (ePost y), .int .i64 (eNum y), .int .i64 (eCnt y), .string (eLine y)])).run Tryz.prog W = .ok (.bool (!eqE x y)) W := neqE.1 x y W
theorem take_nextE {l m : List Ent} {k : Nat} (hl : k < l.length) (hm : k < m.length) (h : l.take k = m.take k) (he : l.getD k noE = m.getD k noE) : l.take (k + 1) = m.take (k + 1) := by
  rw [List.getD_eq_getElem?_getD, List.getElem?_eq_getElem hl, List.getD_eq_getElem?_getD, List.getElem?_eq_getElem hm] at he
  rw [List.take_succ_eq_append_getElem hl, List.take_succ_eq_append_getElem hm, h]
  exact congrArg (fun z => m.take k ++ [z]) he
set_option maxRecDepth 100000 in
set_option maxHeartbeats 4000000 in
theorem sameE_any (v v2 : Value) (l m : List Ent) (w : World) (h1 : EntsAt w v l) (h2 : EntsAt w v2 m) (hl : l.length ≤ 1000) :
    Calls Tryz.prog 31 #[v, v2] w fun e w' => e = .returned (.bool (decide (l = m))) ∧ Below w.heap.size w w' := by
  have H1 := Lib.hid h1
  have H2 := Lib.hid h2
  obtain ⟨a1, c1, rfl⟩ := h1.shape
  obtain ⟨a2, c2, rfl⟩ := h2.shape
  obtain ⟨n, hn⟩ : ∃ n, n = l.length := ⟨_, rfl⟩
  obtain ⟨n2, hn2⟩ : ∃ n, n = m.length := ⟨_, rfl⟩
  have HN := Lib.hid hn
  have HN2 := Lib.hid hn2
  rw [← hn, ← hn2]
  rw [← hn] at hl
  clear h1 h2 hn hn2
  by_cases he : n = n2
  · subst he
    go_enter Tryz.func31, Tryz.ntmps31
    go_wp2
    go_loopw [5] (fun i wr => ∃ k : Nat, k ≤ n ∧ i = .int .i64 k ∧ Hid (l.take k = m.take k) ∧ Hid (Below w.heap.size w wr)) (fun i _ => n - (intOf i).toNat)
    case atStart => exact ⟨0, by omega, rfl, Lib.hid (by simp), Lib.hid (Below.refl _ _)⟩
    case round =>
      obtain ⟨k, hk, rfl, HT, HB⟩ := hrel
      by_cases hlt : k < n
      · have hlt2 : (k : Int) < (n : Int) := by omega
        have hkl : k < l.length := by rw [← HN.out]; exact hlt
        have hkm : k < m.length := by rw [← HN2.out]; exact hlt
        obtain ⟨g, o, cc, hv, p1, p2, p3, p4⟩ := (H1.out.below HB.out).entry hkl
        obtain ⟨g', o', cc', hv', q1, q2, q3, q4⟩ := (H2.out.below HB.out).entry hkm
        simp only [Value.slice.injEq] at hv hv'
        obtain ⟨rfl, _, rfl⟩ := hv
        obtain ⟨rfl, _, rfl⟩ := hv'
        have HTN := Lib.hid (take_nextE hkl hkm HT.out)
        obtain ⟨x, hx⟩ : ∃ x : Ent, x = l.getD k noE := ⟨_, rfl⟩
        obtain ⟨y, hy⟩ : ∃ y : Ent, y = m.getD k noE := ⟨_, rfl⟩
        rw [← hx] at p1 p2 p3 p4
        rw [← hy] at q1 q2 q3 q4
        rw [← hx, ← hy] at HTN
        have HX := Lib.hid hx
        have HY := Lib.hid hy
        have hne := neq_run x y
        clear hx hy
        by_cases hxy : x = y
        · have HT2 := Lib.hid (HTN.out hxy)
          have hb : eqE x y = true := (eqE_iff x y).2 hxy
          rw [hb] at hne
          clear hxy hb HTN
          go_wp2
          go_quiet (fail)
          have HB2 := Lib.hid (belowD HB.out nq)
          go_wp2
          go_roundw
          case rel => exact ⟨k + 1, by omega, by go_num, HT2, HB2⟩
          case measure => simp [intOf]; omega
        · have hb : eqE x y = false := by rw [Bool.eq_false_iff]; exact fun h => hxy ((eqE_iff x y).1 h)
          have HD : Hid (decide (l = m) = false) := Lib.hid (by
            rw [decide_eq_false]
            intro e
            apply hxy
            rw [HX.out, HY.out, e])
          rw [hb] at hne
          clear hxy hb HTN
          go_wp2
          go_quiet (fail)
          have HB2 := Lib.hid (belowD HB.out nq)
          go_wp2
          go_ret
          exact ⟨by rw [HD.out]; rfl, HB2.out⟩
      · obtain rfl : k = n := by omega
        have HD : Hid (decide (l = m) = true) := Lib.hid (by
          rw [decide_eq_true_iff]
          have h9 := HT.out
          rw [List.take_of_length_le (by rw [← HN.out]; exact Nat.le_refl _), List.take_of_length_le (by rw [← HN2.out]; exact Nat.le_refl _)] at h9
          exact h9)
        go_wp2
        go_ret
        exact ⟨by rw [HD.out]; rfl, HB.out⟩
  · have hb : ((n : Int) == (n2 : Int)) = false := by rw [beq_eq_false_iff_ne]; omega
    have HD : Hid (decide (l = m) = false) := Lib.hid (by
      rw [decide_eq_false]
      intro e
      apply he
      rw [HN.out, HN2.out, e])
    go_enter Tryz.func31, Tryz.ntmps31
    go_wp2
    go_ret
    exact ⟨by rw [HD.out]; rfl, Below.refl _ _⟩
end Go.Proofs.YtdfkaijeppdhaaaGreatDoor

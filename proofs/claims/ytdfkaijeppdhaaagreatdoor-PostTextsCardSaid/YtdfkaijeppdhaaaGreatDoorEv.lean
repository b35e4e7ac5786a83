/- Contracts: add. -/
import Derived.Test.YtdfkaijeppdhaaaGreatDoorEu
import Derived.Deep.RegionHeld3
namespace Go.Proofs.YtdfkaijeppdhaaaGreatDoor
open Go.RowKit Go.Shelf

theorem wp_forget {P : Program} {c : Code} {Q : Exit → Act → World → Prop} {a : Act} {w0 : World} {n1 n2 : Nat} (h : ∀ W, Below w0.heap.size w0 W → Code.wp P c Q a W) : Code.wp P c Q a ((w0.drewN n1).drewN n2) := h _ (belowD (belowD (Below.refl _ _) _) _)
/-- A book in block K, its four slices told. -/
structure BookIs (w : World) (K : Nat) (vs : Nat → Value) (b : Book) : Prop where
  cells : w.heap[K]? = some (.cells #[vs 0, vs 1, vs 2, vs 3] 96 (0, 0))
  list : ∀ i, i < 4 → ListAt w (vs i) (b i)
  apart : ∀ i j, i < 4 → j < 4 → i ≠ j → ∀ g, (vs i).ownBlock = some g → (vs j).ownBlock ≠ some g
def setVs (vs : Nat → Value) (p : Nat) (v : Value) : Nat → Value := fun i => if i = p then v else vs i
theorem setVs_same (vs : Nat → Value) (p : Nat) (v : Value) : setVs vs p v p = v := by simp [setVs]
theorem setVs_other (vs : Nat → Value) {p i : Nat} (v : Value) (h : i ≠ p) : setVs vs p v i = vs i := by simp [setVs, h]
theorem BookIs.cell {w : World} {K : Nat} {vs : Nat → Value} {b : Book} (h : BookIs w K vs b) {i : Nat} (hi : i < 4) : w.cell? ⟨K, i, none⟩ = some (vs i) := by
  rcases (show i = 0 ∨ i = 1 ∨ i = 2 ∨ i = 3 by omega) with rfl | rfl | rfl | rfl <;> exact heap_cell h.cells rfl
/-- What add leaves where it adds. -/
structure Added (K p : Nat) (vs : Nat → Value) (b : Book) (e : Ent) (w : World) (v' : Value) (w' : World) : Prop where
  cells : w'.heap[K]? = some (.cells #[setVs vs p v' 0, setVs vs p v' 1, setVs vs p v' 2, setVs vs p v' 3] 96 (0, 0))
  new : ListAt w' v' (b p ++ [e])
  old : ∀ i, i < 4 → ListAt w' (vs i) (b i)
  block : ∀ k, k < w.heap.size → k ≠ K → (vs p).ownBlock ≠ some k → w'.heap[k]? = w.heap[k]?
  own : v'.ownBlock = (vs p).ownBlock ∨ ∃ g, v'.ownBlock = some g ∧ w.heap.size ≤ g
  os : w'.os = w.os
  tape : w'.tape = w.tape
  output : w'.output = w.output
  size : w.heap.size ≤ w'.heap.size
def AddPost (K : Nat) (vs : Nat → Value) (b : Book) (e : Ent) (w : World) (en : Ending) (w' : World) : Prop := en = .returned (.bool true) ∧ ∃ v', Added K (ePost e).toNat vs b e w v' w'
def NoAdd (w : World) (en : Ending) (w' : World) : Prop := en = .returned (.bool false) ∧ Below w.heap.size w w'

theorem ent_box (w : World) (e : Ent) : (w.alloc (.cells #[.int .i64 (ePost e), .int .i64 (eNum e), .int .i64 (eCnt e), .string (eLine e)] 43)).heap[w.heap.size]? = some (.cells #[.int .i64 (ePost e), .int .i64 (eNum e), .int .i64 (eCnt e), .string (eLine e)] 43 (0, 0)) := World.alloc_heap_new w _

set_option maxHeartbeats 4000000 in
/-- An entry that is none. -/
theorem add_none (K : Nat) (e : Ent) (hno : betw 0 (ePost e) 3 = false ∨ betw 1 (eCnt e) 1000000 = false ∨ isLineB (eLine e) = false) (w : World) :
    Calls Tryz.prog 55 #[.pointer (some ⟨K, 0, none⟩), entV e] w (NoAdd w) := by
  unfold entV
  obtain ⟨w2, hw2⟩ : ∃ w2, w2 = w.alloc (.cells #[.int .i64 (ePost e), .int .i64 (eNum e), .int .i64 (eCnt e), .string (eLine e)] 43) := ⟨_, rfl⟩
  have HE2 : Hid (w2.heap[w.heap.size]? = some (.cells #[.int .i64 (ePost e), .int .i64 (eNum e), .int .i64 (eCnt e), .string (eLine e)] 43 (0, 0))) := Lib.hid (by rw [hw2]; exact ent_box w e)
  have HB2 : Hid (Below w.heap.size w w2) := Lib.hid (by rw [hw2]; exact (Below.refl _ w).alloc (Nat.le_refl _) _)
  have HW2 := Lib.hid hw2
  clear hw2
  have e0 := heap_cell (j := 0) HE2.out rfl
  have e1 := heap_cell (j := 1) HE2.out rfl
  have e2 := heap_cell (j := 2) HE2.out rfl
  have e3 := heap_cell (j := 3) HE2.out rfl
  have HB1 := Lib.hid (between_any 0 (ePost e) 3 w2)
  have HC1 := Lib.hid (between_any 1 (eCnt e) 1000000 w2)
  have LC := Lib.hid (fun W => isLine_any (eLine e) W)
  obtain ⟨q1, hq1⟩ : ∃ q, q = betw 0 (ePost e) 3 := ⟨_, rfl⟩
  obtain ⟨q2, hq2⟩ : ∃ q, q = betw 1 (eCnt e) 1000000 := ⟨_, rfl⟩
  obtain ⟨q3, hq3⟩ : ∃ q, q = isLineB (eLine e) := ⟨_, rfl⟩
  rw [← hq1] at HB1 hno
  rw [← hq2] at HC1 hno
  rw [← hq3] at LC hno
  clear hq1 hq2 hq3
  cases q1 with
  | false =>
    clear hno
    go_enter Tryz.func55, Tryz.ntmps55
    go_wp2_with fail
    rw [← HW2.out]
    go_wp2_with fail
    refine HB1.out.mono ?_
    rintro en w3 ⟨rfl, rfl⟩
    go_wp2
    go_ret
    exact ⟨rfl, HB2.out⟩
  | true =>
    cases q2 with
    | false =>
      clear hno
      go_enter Tryz.func55, Tryz.ntmps55
      go_wp2_with fail
      rw [← HW2.out]
      go_wp2_with fail
      refine HB1.out.mono ?_
      rintro en w3 ⟨rfl, rfl⟩
      go_wp2_with fail
      refine HC1.out.mono ?_
      rintro en w3 ⟨rfl, rfl⟩
      go_wp2
      go_ret
      exact ⟨rfl, HB2.out⟩
    | true =>
      have hq : q3 = false := by
        rcases hno with h | h | h
        · cases h
        · cases h
        · exact h
      subst hq
      clear hno
      go_enter Tryz.func55, Tryz.ntmps55
      go_wp2_with fail
      rw [← HW2.out]
      go_wp2_with fail
      refine HB1.out.mono ?_
      rintro en w3 ⟨rfl, rfl⟩
      go_wp2_with fail
      refine HC1.out.mono ?_
      rintro en w3 ⟨rfl, rfl⟩
      go_wp2_with fail
      refine (LC.out w2).mono ?_
      rintro en w3 ⟨rfl, hb3⟩
      have e30 := keep_cell hb3 e0
      have e31 := keep_cell hb3 e1
      have e32 := keep_cell hb3 e2
      have e33 := keep_cell hb3 e3
      have HB3 := Lib.hid (HB2.out.trans (hb3.mono HB2.out.size))
      have HX3 := Lib.hid hb3
      clear hb3
      go_wp2
      go_ret
      exact ⟨rfl, HB3.out⟩
theorem setCell_four {W : World} {K : Nat} {a b c d : Value} {t : TypeId} (h : W.heap[K]? = some (.cells #[a, b, c, d] t (0, 0))) (i : Nat) (v : Value) : (W.setCell ⟨K, i, none⟩ v).heap[K]? = some (.cells (#[a, b, c, d].setIfInBounds i v) t (0, 0)) := by
  obtain ⟨hlt, hk⟩ := Array.getElem?_eq_some_iff.1 h
  show (W.heap.modify K _)[K]? = _
  rw [Array.getElem?_eq_getElem (by rw [Array.size_modify]; exact hlt), Array.getElem_modify_self, hk]
  simp
theorem added_end {K p : Nat} {vs : Nat → Value} {b : Book} {e : Ent} {w W5 W6 W7 : World} {v' : Value} (hp : p < 4) (hb5 : Below w.heap.size w W5) (hx6 : Below W5.heap.size W5 W6)
    (hK : W5.heap[K]? = some (.cells #[vs 0, vs 1, vs 2, vs 3] 96 (0, 0))) (hL : ∀ i, i < 4 → ListAt W5 (vs i) (b i)) (hne : ∀ i, i < 4 → ∀ g, (vs i).ownBlock = some g → g ≠ K)
    (hap : ∀ i j, i < 4 → j < 4 → i ≠ j → ∀ g, (vs i).ownBlock = some g → (vs j).ownBlock ≠ some g) (hR : AppKeeps (vs p) (b p) e W6 v' W7) : Added K p vs b e w v' (W7.setCell ⟨K, p, none⟩ v') := by
  have hKlt := (Array.getElem?_eq_some_iff.1 hK).1
  have h56 := hx6.size
  have h67 := hR.grown.size
  have hs5 := hb5.size
  have hK7 : W7.heap[K]? = some (.cells #[vs 0, vs 1, vs 2, vs 3] 96 (0, 0)) := (hR.grown.block K (by omega) (fun e2 => hne p hp K e2.symm rfl)).trans ((hx6.block K hKlt).trans hK)
  have hset : ∀ k, k ≠ K → (W7.setCell ⟨K, p, none⟩ v').heap[k]? = W7.heap[k]? := fun k hk => Below.heap_setCell _ _ _ k hk
  have hgk : ∀ g, v'.ownBlock = some g → g ≠ K := fun g hg => by
    rcases hR.own with h | ⟨g', h, h2⟩
    · rw [h] at hg; exact hne p hp g hg
    · rw [h] at hg; injection hg with hg; omega
  refine ⟨?_, hR.new.keep fun k hk => hset k (hgk k hk), fun i hi => ?_, fun k hk h1 h2 => ?_, ?_, ?_, ?_, ?_, ?_⟩
  · rw [setCell_four hK7]
    congr 1
    unfold setVs
    rcases (show p = 0 ∨ p = 1 ∨ p = 2 ∨ p = 3 by omega) with rfl | rfl | rfl | rfl <;> simp
  · by_cases hip : i = p
    · subst hip
      exact hR.old.keep fun k hk => hset k (hne i hi k hk)
    · refine (hL i hi).keep fun k hk => ?_
      have hklt := (hL i hi).lt hk
      exact (hset k (hne i hi k hk)).trans ((hR.grown.block k (by omega) (fun e2 => hap i p hi hp hip k hk e2.symm)).trans (hx6.block k hklt))
  · exact (hset k h1).trans ((hR.grown.block k (by omega) (fun e2 => h2 e2.symm)).trans ((hx6.block k (by omega)).trans (hb5.block k hk)))
  · rcases hR.own with h | ⟨g', h, h2⟩
    · exact .inl h
    · exact .inr ⟨g', h, by omega⟩
  · exact hR.grown.os.trans (hx6.os.trans hb5.os)
  · exact hR.grown.tape.trans (hx6.tape.trans hb5.tape)
  · exact hR.grown.output.trans (hx6.output.trans hb5.output)
  · rw [World.size_setCell]; omega
theorem BookIs.slice {w : World} {K : Nat} {vs : Nat → Value} {b : Book} (h : BookIs w K vs b) {p : Nat} (hp : p < 4) : ∃ a cap, vs p = .slice a (b p).length cap := own_shape (h.list p hp)
set_option maxRecDepth 100000 in
set_option maxHeartbeats 4000000 in
/-- An entry of another number, or one too many. -/
theorem add_number (K : Nat) (vs : Nat → Value) (b : Book) (p : Nat) (hp : p < 4) (num cnt : Int) (line : ByteArray) (hcnt : 1 ≤ cnt ∧ cnt ≤ 1000000) (hline : isLineB line = true) (w : World) (h : BookIs w K vs b) (hlen : (b p).length ≤ 60)
    (hno : num ≠ ((b p).length : Int) + 1 ∨ (b p).length = 60) :
    Calls Tryz.prog 55 #[.pointer (some ⟨K, 0, none⟩), entV ((p : Int), num, cnt, line)] w (NoAdd w) := by
  unfold entV
  obtain ⟨w2, hw2⟩ : ∃ w2, w2 = w.alloc (.cells #[.int .i64 (p : Int), .int .i64 num, .int .i64 cnt, .string line] 43) := ⟨_, rfl⟩
  have HE2 : Hid (w2.heap[w.heap.size]? = some (.cells #[.int .i64 (p : Int), .int .i64 num, .int .i64 cnt, .string line] 43 (0, 0))) := Lib.hid (by rw [hw2]; exact World.alloc_heap_new w _)
  have HB2 : Hid (Below w.heap.size w w2) := Lib.hid (by rw [hw2]; exact (Below.refl _ w).alloc (Nat.le_refl _) _)
  have HW2 := Lib.hid hw2
  clear hw2
  have e0 := heap_cell (j := 0) HE2.out rfl
  have e1 := heap_cell (j := 1) HE2.out rfl
  have e2 := heap_cell (j := 2) HE2.out rfl
  have e3 := heap_cell (j := 3) HE2.out rfl
  have HB1 := Lib.hid (between_any 0 (p : Int) 3 w2)
  have HC1 := Lib.hid (between_any 1 cnt 1000000 w2)
  have LC := Lib.hid (fun W => isLine_any line W)
  rw [(betw_iff 0 (p : Int) 3).2 ⟨by omega, by omega⟩] at HB1
  rw [(betw_iff 1 cnt 1000000).2 hcnt] at HC1
  rw [hline] at LC
  have hp1 : (0 : Int) ≤ (p : Int) := by omega
  have hp2 : (p : Int) < 4 := by omega
  have HK := Lib.hid h
  have hlen60 := hlen
  obtain ⟨a, cap, hvp⟩ := HK.out.slice hp
  obtain ⟨n, hn⟩ : ∃ n, n = (b p).length := ⟨_, rfl⟩
  rw [← hn] at hvp hlen60 hno
  have hw1 : IntKind.i64.wrap ((n : Int) + 1) = (n : Int) + 1 := IntWalk.i64_in _ (by omega)
  clear hn hlen h hcnt hline
  by_cases h1 : num = (n : Int) + 1
  · have h2 : n = 60 := by rcases hno with h3 | h3 <;> omega
    have z1 : ((n : Int) == 60) = true := by simp; omega
    subst h1
    clear hno h2
    go_enter Tryz.func55, Tryz.ntmps55
    go_wp2_with fail
    simp only [ePost, eNum, eCnt, eLine]
    rw [← HW2.out]
    go_wp2_with fail
    refine HB1.out.mono ?_
    rintro en w3 ⟨rfl, rfl⟩
    go_wp2_with fail
    refine HC1.out.mono ?_
    rintro en w3 ⟨rfl, rfl⟩
    go_wp2_with fail
    refine (LC.out w2).mono ?_
    rintro en w3 ⟨rfl, hb3⟩
    have e30 := keep_cell hb3 e0
    have e31 := keep_cell hb3 e1
    have e32 := keep_cell hb3 e2
    have e33 := keep_cell hb3 e3
    have HB3 := Lib.hid (HB2.out.trans (hb3.mono HB2.out.size))
    have HX3 := Lib.hid hb3
    clear hb3
    have ck := keep_cell HB3.out (HK.out.cell hp)
    rw [hvp] at ck
    go_wp2
    go_quiet (fail)
    go_wp2
    go_quiet (fail)
    go_wp2
    go_ret
    exact ⟨rfl, belowD (belowD HB3.out _) _⟩
  · have z0 : (num != (n : Int) + 1) = true := by simpa using h1
    clear hno h1
    go_enter Tryz.func55, Tryz.ntmps55
    go_wp2_with fail
    simp only [ePost, eNum, eCnt, eLine]
    rw [← HW2.out]
    go_wp2_with fail
    refine HB1.out.mono ?_
    rintro en w3 ⟨rfl, rfl⟩
    go_wp2_with fail
    refine HC1.out.mono ?_
    rintro en w3 ⟨rfl, rfl⟩
    go_wp2_with fail
    refine (LC.out w2).mono ?_
    rintro en w3 ⟨rfl, hb3⟩
    have e30 := keep_cell hb3 e0
    have e31 := keep_cell hb3 e1
    have e32 := keep_cell hb3 e2
    have e33 := keep_cell hb3 e3
    have HB3 := Lib.hid (HB2.out.trans (hb3.mono HB2.out.size))
    have HX3 := Lib.hid hb3
    clear hb3
    have ck := keep_cell HB3.out (HK.out.cell hp)
    rw [hvp] at ck
    go_wp2
    go_quiet (fail)
    go_wp2
    go_quiet (fail)
    go_wp2
    go_ret
    exact ⟨rfl, belowD (belowD HB3.out _) _⟩
theorem last_get {l : List Ent} (h : 0 < l.length) : lastC l = eCnt (l.getD (l.length - 1) noE) := by
  unfold lastC
  rw [List.getLast?_eq_getElem?, List.getD_eq_getElem?_getD, List.getElem?_eq_getElem (by omega)]
  rfl
set_option maxRecDepth 100000 in
set_option maxHeartbeats 4000000 in
/-- An entry whose count is not greater. -/
theorem add_count (K : Nat) (vs : Nat → Value) (b : Book) (p : Nat) (hp : p < 4) (cnt : Int) (line : ByteArray) (hcnt : 1 ≤ cnt ∧ cnt ≤ 1000000) (hline : isLineB line = true) (w : World) (h : BookIs w K vs b) (hlen : (b p).length < 60)
    (h0 : 0 < (b p).length) (hno : cnt ≤ lastC (b p)) :
    Calls Tryz.prog 55 #[.pointer (some ⟨K, 0, none⟩), entV ((p : Int), ((b p).length : Int) + 1, cnt, line)] w (NoAdd w) := by
  obtain ⟨num, hnum⟩ : ∃ num : Int, num = ((b p).length : Int) + 1 := ⟨_, rfl⟩
  rw [← hnum]
  unfold entV
  obtain ⟨w2, hw2⟩ : ∃ w2, w2 = w.alloc (.cells #[.int .i64 (p : Int), .int .i64 num, .int .i64 cnt, .string line] 43) := ⟨_, rfl⟩
  have HE2 : Hid (w2.heap[w.heap.size]? = some (.cells #[.int .i64 (p : Int), .int .i64 num, .int .i64 cnt, .string line] 43 (0, 0))) := Lib.hid (by rw [hw2]; exact World.alloc_heap_new w _)
  have HB2 : Hid (Below w.heap.size w w2) := Lib.hid (by rw [hw2]; exact (Below.refl _ w).alloc (Nat.le_refl _) _)
  have HW2 := Lib.hid hw2
  clear hw2
  have e0 := heap_cell (j := 0) HE2.out rfl
  have e1 := heap_cell (j := 1) HE2.out rfl
  have e2 := heap_cell (j := 2) HE2.out rfl
  have e3 := heap_cell (j := 3) HE2.out rfl
  have HB1 := Lib.hid (between_any 0 (p : Int) 3 w2)
  have HC1 := Lib.hid (between_any 1 cnt 1000000 w2)
  have LC := Lib.hid (fun W => isLine_any line W)
  rw [(betw_iff 0 (p : Int) 3).2 ⟨by omega, by omega⟩] at HB1
  rw [(betw_iff 1 cnt 1000000).2 hcnt] at HC1
  rw [hline] at LC
  have hp1 : (0 : Int) ≤ (p : Int) := by omega
  have hp2 : (p : Int) < 4 := by omega
  have HK := Lib.hid h
  have hlen60 := hlen
  obtain ⟨bk, off, cap, hvp, hcs⟩ := ((HK.out.list p hp).ents (by omega)).cells h0
  have hlast := (hcs ((b p).length - 1) (by omega)).2.2.1
  have hlc : lastC (b p) = eCnt ((b p).getD ((b p).length - 1) (0, 0, 0, ⟨#[]⟩)) := last_get h0
  rw [← hlc] at hlast
  clear hcs hlc
  generalize lastC (b p) = lc at *
  obtain ⟨n, hn⟩ : ∃ n, n = (b p).length := ⟨_, rfl⟩
  rw [← hn] at hvp hlen60 hnum h0 hlast
  have hw1 : IntKind.i64.wrap ((n : Int) + 1) = (n : Int) + 1 := IntWalk.i64_in _ (by omega)
  have hw2 : IntKind.i64.wrap ((n : Int) - 1) = (n : Int) - 1 := IntWalk.i64_in _ (by omega)
  subst hnum
  have z1 : ((n : Int) == 60) = false := by simp; omega
  have z2 : decide ((0 : Int) < (n : Int)) = true := by simp; omega
  have z3 : decide (cnt ≤ lc) = true := by simpa using hno
  have i1 : (0 : Int) ≤ (n : Int) - 1 := by omega
  have i2 : (n : Int) - 1 < (n : Int) := by omega
  have i3 : ((n : Int) - 1).toNat = n - 1 := by omega
  clear hn hlen h hcnt hline
  go_enter Tryz.func55, Tryz.ntmps55
  go_wp2_with fail
  simp only [ePost, eNum, eCnt, eLine]
  rw [← HW2.out]
  go_wp2_with fail
  refine HB1.out.mono ?_
  rintro en w3 ⟨rfl, rfl⟩
  go_wp2_with fail
  refine HC1.out.mono ?_
  rintro en w3 ⟨rfl, rfl⟩
  go_wp2_with fail
  refine (LC.out w2).mono ?_
  rintro en w3 ⟨rfl, hb3⟩
  have e30 := keep_cell hb3 e0
  have e31 := keep_cell hb3 e1
  have e32 := keep_cell hb3 e2
  have e33 := keep_cell hb3 e3
  have HB3 := Lib.hid (HB2.out.trans (hb3.mono HB2.out.size))
  have HX3 := Lib.hid hb3
  clear hb3
  have ck := keep_cell HB3.out (HK.out.cell hp)
  rw [hvp] at ck
  go_wp2
  go_quiet (fail)
  go_wp2
  have hl3 := keep_cell HB3.out hlast
  go_quiet (fail)
  go_wp2
  go_ret
  exact ⟨rfl, belowD (belowD HB3.out _) _⟩
theorem row4_news {w : World} {B : Nat} {c0 c1 c2 c3 : Value} {t : TypeId} {e : Ent} (h : w.heap[B]? = some (.cells #[c0, c1, c2, c3] t (0, 0))) (hc : entC e = [c0, c1, c2, c3]) : ∀ j u, (rowE [e])[j]? = some u → w.cell? ((⟨B, 0, none⟩ : Addr).add j) = some u := by
  intro j u hj
  have he : rowE [e] = [c0, c1, c2, c3] := by unfold rowE; simp [hc]
  rw [he] at hj
  rw [Addr.add_lit, Nat.zero_add]
  exact heap_cell h (by simpa using hj)
set_option maxRecDepth 100000 in
set_option maxHeartbeats 4000000 in
/-- An entry that follows others. -/
theorem add_more (K : Nat) (vs : Nat → Value) (b : Book) (p : Nat) (hp : p < 4) (cnt : Int) (line : ByteArray) (hcnt : 1 ≤ cnt ∧ cnt ≤ 1000000) (hline : isLineB line = true) (w : World) (h : BookIs w K vs b) (hlen : (b p).length < 60)
    (h0 : 0 < (b p).length) (hyes : lastC (b p) < cnt) :
    Calls Tryz.prog 55 #[.pointer (some ⟨K, 0, none⟩), entV ((p : Int), ((b p).length : Int) + 1, cnt, line)] w (AddPost K vs b ((p : Int), ((b p).length : Int) + 1, cnt, line) w) := by
  obtain ⟨num, hnum⟩ : ∃ num : Int, num = ((b p).length : Int) + 1 := ⟨_, rfl⟩
  rw [← hnum]
  obtain ⟨en0, hen0⟩ : ∃ en0 : Ent, en0 = ((p : Int), num, cnt, line) := ⟨_, rfl⟩
  have HEN := Lib.hid hen0
  rw [show AddPost K vs b ((p : Int), num, cnt, line) w = AddPost K vs b en0 w by rw [hen0]]
  clear hen0
  unfold entV
  obtain ⟨w2, hw2⟩ : ∃ w2, w2 = w.alloc (.cells #[.int .i64 (p : Int), .int .i64 num, .int .i64 cnt, .string line] 43) := ⟨_, rfl⟩
  have HE2 : Hid (w2.heap[w.heap.size]? = some (.cells #[.int .i64 (p : Int), .int .i64 num, .int .i64 cnt, .string line] 43 (0, 0))) := Lib.hid (by rw [hw2]; exact World.alloc_heap_new w _)
  have HB2 : Hid (Below w.heap.size w w2) := Lib.hid (by rw [hw2]; exact (Below.refl _ w).alloc (Nat.le_refl _) _)
  have HW2 := Lib.hid hw2
  clear hw2
  have e0 := heap_cell (j := 0) HE2.out rfl
  have e1 := heap_cell (j := 1) HE2.out rfl
  have e2 := heap_cell (j := 2) HE2.out rfl
  have e3 := heap_cell (j := 3) HE2.out rfl
  have HB1 := Lib.hid (between_any 0 (p : Int) 3 w2)
  have HC1 := Lib.hid (between_any 1 cnt 1000000 w2)
  have LC := Lib.hid (fun W => isLine_any line W)
  rw [(betw_iff 0 (p : Int) 3).2 ⟨by omega, by omega⟩] at HB1
  rw [(betw_iff 1 cnt 1000000).2 hcnt] at HC1
  rw [hline] at LC
  have hp1 : (0 : Int) ≤ (p : Int) := by omega
  have hp2 : (p : Int) < 4 := by omega
  have HK := Lib.hid h
  have hlen60 := hlen
  obtain ⟨bk, off, cap, hvp, hcs⟩ := ((HK.out.list p hp).ents (by omega)).cells h0
  have hlast := (hcs ((b p).length - 1) (by omega)).2.2.1
  have hlc : lastC (b p) = eCnt ((b p).getD ((b p).length - 1) (0, 0, 0, ⟨#[]⟩)) := last_get h0
  rw [← hlc] at hlast
  clear hcs hlc
  generalize lastC (b p) = lc at *
  obtain ⟨n, hn⟩ : ∃ n, n = (b p).length := ⟨_, rfl⟩
  have HN := Lib.hid hn
  rw [← hn] at hvp hlen60 hnum h0 hlast
  have HVP := Lib.hid hvp
  have hw1 : IntKind.i64.wrap ((n : Int) + 1) = (n : Int) + 1 := IntWalk.i64_in _ (by omega)
  have hw2 : IntKind.i64.wrap ((n : Int) - 1) = (n : Int) - 1 := IntWalk.i64_in _ (by omega)
  subst hnum
  have z1 : ((n : Int) == 60) = false := by simp; omega
  have z2 : decide ((0 : Int) < (n : Int)) = true := by simp; omega
  have z3 : decide (cnt ≤ lc) = false := by simpa using hyes
  have i1 : (0 : Int) ≤ (n : Int) - 1 := by omega
  have i2 : (n : Int) - 1 < (n : Int) := by omega
  have i3 : ((n : Int) - 1).toNat = n - 1 := by omega
  clear hn hlen h hcnt hline hyes
  go_enter Tryz.func55, Tryz.ntmps55
  go_wp2_with fail
  simp only [ePost, eNum, eCnt, eLine]
  rw [← HW2.out]
  go_wp2_with fail
  refine HB1.out.mono ?_
  rintro en w3 ⟨rfl, rfl⟩
  go_wp2_with fail
  refine HC1.out.mono ?_
  rintro en w3 ⟨rfl, rfl⟩
  go_wp2_with fail
  refine (LC.out w2).mono ?_
  rintro en w3 ⟨rfl, hb3⟩
  have e30 := keep_cell hb3 e0
  have e31 := keep_cell hb3 e1
  have e32 := keep_cell hb3 e2
  have e33 := keep_cell hb3 e3
  have HB3 := Lib.hid (HB2.out.trans (hb3.mono HB2.out.size))
  have HX3 := Lib.hid hb3
  clear hb3
  have ck := keep_cell HB3.out (HK.out.cell hp)
  rw [hvp] at ck
  go_wp2
  go_quiet (fail)
  go_wp2
  have hl3 := keep_cell HB3.out hlast
  go_quiet (fail)
  go_wp2
  refine wp_forget (fun W5 hX5 => ?_)
  have HX5 := Lib.hid hX5
  clear hX5
  have HB5 : Hid (Below w.heap.size w W5) := Lib.hid (HB3.out.trans (HX5.out.mono HB3.out.size))
  have HKK := Lib.hid ((HB5.out.block K (Array.getElem?_eq_some_iff.1 HK.out.cells).1).trans HK.out.cells)
  have HEB := Lib.hid ((HX5.out.block w.heap.size (by have := (Array.getElem?_eq_some_iff.1 HE2.out).1; have := HX3.out.size; omega)).trans ((HX3.out.block _ (Array.getElem?_eq_some_iff.1 HE2.out).1).trans HE2.out))
  have HLP : Hid (ListAt W5 (.slice (some ⟨bk, off, none⟩) n cap) (b p)) := Lib.hid (by rw [← HVP.out]; exact (HK.out.list p hp).keep fun k hk => HB5.out.block k ((HK.out.list p hp).lt hk))
  have HLL : Hid (∀ i, i < 4 → ListAt W5 (vs i) (b i)) := Lib.hid fun i hi => (HK.out.list i hi).keep fun k hk => HB5.out.block k ((HK.out.list i hi).lt hk)
  have HNE : Hid (∀ i, i < 4 → ∀ g, (vs i).ownBlock = some g → g ≠ K) := Lib.hid (fun i hi g hg e => by
    subst e
    rcases (HK.out.list i hi).2 with ⟨h1, _⟩ | ⟨g', cap', cur, h1, _, h2, _⟩
    · rw [h1] at hg; cases hg
    · rw [h1] at hg
      have : g' = g := by simpa [Value.ownBlock] using hg
      subst this
      rw [HK.out.cells] at h2
      simp at h2)
  have f0 : W5.cell? ⟨K, p, none⟩ = some (.slice (some ⟨bk, off, none⟩) n cap) := by rw [← HVP.out]; exact keep_cell HB5.out (HK.out.cell hp)
  have f1 := heap_cell (j := 0) HEB.out rfl
  have f2 := heap_cell (j := 1) HEB.out rfl
  have f3 := heap_cell (j := 2) HEB.out rfl
  have f4 := heap_cell (j := 3) HEB.out rfl
  clear ck e0 e1 e2 e3 e30 e31 e32 e33 hvp
  obtain ⟨W6, hW6⟩ : ∃ W6, W6 = (W5.alloc (.cells #[.int .i64 (p : Int), .int .i64 ((n : Int) + 1), .int .i64 cnt, .string line] 43)).drew := ⟨_, rfl⟩
  have HX6 : Hid (Below W5.heap.size W5 W6) := Lib.hid (by rw [hW6]; exact ((Below.refl _ _).alloc (Nat.le_refl _) _).drew)
  have HNW : Hid (W6.heap[W5.heap.size]? = some (.cells #[.int .i64 (p : Int), .int .i64 ((n : Int) + 1), .int .i64 cnt, .string line] 43 (0, 0))) := Lib.hid (by rw [hW6]; exact World.alloc_heap_new W5 _)
  have HLP6 : Hid (ListAt W6 (.slice (some ⟨bk, off, none⟩) n cap) (b p)) := Lib.hid (HLP.out.keep fun k hk => HX6.out.block k (HLP.out.lt hk))
  have HAP := Lib.hid (fun ty => append_keeps HLP6.out (by rw [← HN.out]; omega) en0 ty ⟨W5.heap.size, 0, none⟩ (row4_news HNW.out (by rw [HEN.out]; rfl)))
  have HW6 := Lib.hid hW6
  have HKLT := Lib.hid ((Array.getElem?_eq_some_iff.1 HKK.out).1)
  have HNK := Lib.hid (HNE.out p hp)
  have HLT := Lib.hid (fun g (hg : (vs p).ownBlock = some g) => (HK.out.list p hp).lt hg)
  have HBLT := Lib.hid ((Array.getElem?_eq_some_iff.1 HEB.out).1)
  rw [HVP.out] at HLT
  rw [HVP.out] at HNK
  have f0a : (W5.alloc (.cells #[.int .i64 (p : Int), .int .i64 ((n : Int) + 1), .int .i64 cnt, .string line] 43)).cell? ⟨K, p, none⟩ = some (.slice (some ⟨bk, off, none⟩) n cap) := keep_cell ((Below.refl _ _).alloc (Nat.le_refl _) _) f0
  clear hW6
  go_region_law (first
    | ((rw [← HW6.out]; refine step_append_run (by rfl) _ _ _ (by rfl) (.slice (some ⟨bk, off, none⟩) n cap) (.slice (some ⟨W5.heap.size, 0, none⟩) 1 1) (by rfl) (by rfl) (AppKeeps (.slice (some ⟨bk, off, none⟩) n cap) (b p) en0 W6) (HAP.out _) ?_; intro v' W7 hR; obtain ⟨g', cap', rfl⟩ := hR.is; have HR := Lib.hid hR; have HK7 := Lib.hid ((hR.grown.block K (Nat.lt_of_lt_of_le HKLT.out HX6.out.size) (fun e => HNK.out K e.symm rfl)).trans ((HX6.out.block K HKLT.out).trans HKK.out)); have c7 : W7.cell? ⟨K, p, none⟩ = some (.slice (some ⟨bk, off, none⟩) n cap) := (World.cell?_of_block (hR.grown.block K (Nat.lt_of_lt_of_le HKLT.out HX6.out.size) (fun e => HNK.out K e.symm rfl))).trans (keep_cell HX6.out f0); have f7 : W7.frozen? ⟨K, p, none⟩ = false := (by have := HK7.out; simp [World.frozen?, this]); have HE7 := Lib.hid ((hR.grown.block w.heap.size (Nat.lt_of_lt_of_le HBLT.out HX6.out.size) (fun e => Nat.lt_irrefl _ (HLT.out _ e.symm))).trans ((HX6.out.block w.heap.size HBLT.out).trans HEB.out)); have g1 := heap_cell (j := 0) HE7.out rfl; have g2 := heap_cell (j := 1) HE7.out rfl; have g3 := heap_cell (j := 2) HE7.out rfl; have g4 := heap_cell (j := 3) HE7.out rfl; clear hR))
    | fail)
  all_goals go_wp2
  all_goals go_ret
  all_goals exact ⟨rfl, _, by rw [show (ePost en0).toNat = p by rw [HEN.out]; exact Int.toNat_natCast p]; exact added_end hp HB5.out HX6.out HKK.out HLL.out HNE.out HK.out.apart (by rw [HVP.out]; exact HR.out)⟩
set_option maxRecDepth 100000 in
set_option maxHeartbeats 4000000 in
/-- The first entry. -/
theorem add_first (K : Nat) (vs : Nat → Value) (b : Book) (p : Nat) (hp : p < 4) (cnt : Int) (line : ByteArray) (hcnt : 1 ≤ cnt ∧ cnt ≤ 1000000) (hline : isLineB line = true) (w : World) (h : BookIs w K vs b) (hlen : (b p).length < 60)
    (h0 : (b p).length = 0) :
    Calls Tryz.prog 55 #[.pointer (some ⟨K, 0, none⟩), entV ((p : Int), ((b p).length : Int) + 1, cnt, line)] w (AddPost K vs b ((p : Int), ((b p).length : Int) + 1, cnt, line) w) := by
  obtain ⟨num, hnum⟩ : ∃ num : Int, num = ((b p).length : Int) + 1 := ⟨_, rfl⟩
  rw [← hnum]
  obtain ⟨en0, hen0⟩ : ∃ en0 : Ent, en0 = ((p : Int), num, cnt, line) := ⟨_, rfl⟩
  have HEN := Lib.hid hen0
  rw [show AddPost K vs b ((p : Int), num, cnt, line) w = AddPost K vs b en0 w by rw [hen0]]
  clear hen0
  unfold entV
  obtain ⟨w2, hw2⟩ : ∃ w2, w2 = w.alloc (.cells #[.int .i64 (p : Int), .int .i64 num, .int .i64 cnt, .string line] 43) := ⟨_, rfl⟩
  have HE2 : Hid (w2.heap[w.heap.size]? = some (.cells #[.int .i64 (p : Int), .int .i64 num, .int .i64 cnt, .string line] 43 (0, 0))) := Lib.hid (by rw [hw2]; exact World.alloc_heap_new w _)
  have HB2 : Hid (Below w.heap.size w w2) := Lib.hid (by rw [hw2]; exact (Below.refl _ w).alloc (Nat.le_refl _) _)
  have HW2 := Lib.hid hw2
  clear hw2
  have e0 := heap_cell (j := 0) HE2.out rfl
  have e1 := heap_cell (j := 1) HE2.out rfl
  have e2 := heap_cell (j := 2) HE2.out rfl
  have e3 := heap_cell (j := 3) HE2.out rfl
  have HB1 := Lib.hid (between_any 0 (p : Int) 3 w2)
  have HC1 := Lib.hid (between_any 1 cnt 1000000 w2)
  have LC := Lib.hid (fun W => isLine_any line W)
  rw [(betw_iff 0 (p : Int) 3).2 ⟨by omega, by omega⟩] at HB1
  rw [(betw_iff 1 cnt 1000000).2 hcnt] at HC1
  rw [hline] at LC
  have hp1 : (0 : Int) ≤ (p : Int) := by omega
  have hp2 : (p : Int) < 4 := by omega
  have HK := Lib.hid h
  have hlen60 := hlen
  obtain ⟨a, cap, hvp⟩ := HK.out.slice hp
  obtain ⟨n, hn⟩ : ∃ n, n = (b p).length := ⟨_, rfl⟩
  have HN := Lib.hid hn
  rw [← hn] at hvp hlen60 hnum h0
  have HVP := Lib.hid hvp
  have hw1 : IntKind.i64.wrap ((n : Int) + 1) = (n : Int) + 1 := IntWalk.i64_in _ (by omega)
  subst hnum
  have z1 : ((n : Int) == 60) = false := by simp; omega
  have z2 : decide ((0 : Int) < (n : Int)) = false := by simp; omega
  have z3 : decide (0 < n) = false := by simp; omega
  clear hn hlen h hcnt hline h0
  go_enter Tryz.func55, Tryz.ntmps55
  go_wp2_with fail
  simp only [ePost, eNum, eCnt, eLine]
  rw [← HW2.out]
  go_wp2_with fail
  refine HB1.out.mono ?_
  rintro en w3 ⟨rfl, rfl⟩
  go_wp2_with fail
  refine HC1.out.mono ?_
  rintro en w3 ⟨rfl, rfl⟩
  go_wp2_with fail
  refine (LC.out w2).mono ?_
  rintro en w3 ⟨rfl, hb3⟩
  have e30 := keep_cell hb3 e0
  have e31 := keep_cell hb3 e1
  have e32 := keep_cell hb3 e2
  have e33 := keep_cell hb3 e3
  have HB3 := Lib.hid (HB2.out.trans (hb3.mono HB2.out.size))
  have HX3 := Lib.hid hb3
  clear hb3
  have ck := keep_cell HB3.out (HK.out.cell hp)
  rw [hvp] at ck
  go_wp2
  go_quiet (fail)
  go_wp2
  go_quiet (fail)
  go_wp2
  refine wp_forget (fun W5 hX5 => ?_)
  have HX5 := Lib.hid hX5
  clear hX5
  have HB5 : Hid (Below w.heap.size w W5) := Lib.hid (HB3.out.trans (HX5.out.mono HB3.out.size))
  have HKK := Lib.hid ((HB5.out.block K (Array.getElem?_eq_some_iff.1 HK.out.cells).1).trans HK.out.cells)
  have HEB := Lib.hid ((HX5.out.block w.heap.size (by have := (Array.getElem?_eq_some_iff.1 HE2.out).1; have := HX3.out.size; omega)).trans ((HX3.out.block _ (Array.getElem?_eq_some_iff.1 HE2.out).1).trans HE2.out))
  have HLP : Hid (ListAt W5 (.slice a n cap) (b p)) := Lib.hid (by rw [← HVP.out]; exact (HK.out.list p hp).keep fun k hk => HB5.out.block k ((HK.out.list p hp).lt hk))
  have HLL : Hid (∀ i, i < 4 → ListAt W5 (vs i) (b i)) := Lib.hid fun i hi => (HK.out.list i hi).keep fun k hk => HB5.out.block k ((HK.out.list i hi).lt hk)
  have HNE : Hid (∀ i, i < 4 → ∀ g, (vs i).ownBlock = some g → g ≠ K) := Lib.hid (fun i hi g hg e => by
    subst e
    rcases (HK.out.list i hi).2 with ⟨h1, _⟩ | ⟨g', cap', cur, h1, _, h2, _⟩
    · rw [h1] at hg; cases hg
    · rw [h1] at hg
      have : g' = g := by simpa [Value.ownBlock] using hg
      subst this
      rw [HK.out.cells] at h2
      simp at h2)
  have f0 : W5.cell? ⟨K, p, none⟩ = some (.slice a n cap) := by rw [← HVP.out]; exact keep_cell HB5.out (HK.out.cell hp)
  have f1 := heap_cell (j := 0) HEB.out rfl
  have f2 := heap_cell (j := 1) HEB.out rfl
  have f3 := heap_cell (j := 2) HEB.out rfl
  have f4 := heap_cell (j := 3) HEB.out rfl
  clear ck e0 e1 e2 e3 e30 e31 e32 e33 hvp
  obtain ⟨W6, hW6⟩ : ∃ W6, W6 = (W5.alloc (.cells #[.int .i64 (p : Int), .int .i64 ((n : Int) + 1), .int .i64 cnt, .string line] 43)).drew := ⟨_, rfl⟩
  have HX6 : Hid (Below W5.heap.size W5 W6) := Lib.hid (by rw [hW6]; exact ((Below.refl _ _).alloc (Nat.le_refl _) _).drew)
  have HNW : Hid (W6.heap[W5.heap.size]? = some (.cells #[.int .i64 (p : Int), .int .i64 ((n : Int) + 1), .int .i64 cnt, .string line] 43 (0, 0))) := Lib.hid (by rw [hW6]; exact World.alloc_heap_new W5 _)
  have HLP6 : Hid (ListAt W6 (.slice a n cap) (b p)) := Lib.hid (HLP.out.keep fun k hk => HX6.out.block k (HLP.out.lt hk))
  have HAP := Lib.hid (fun ty => append_keeps HLP6.out (by rw [← HN.out]; omega) en0 ty ⟨W5.heap.size, 0, none⟩ (row4_news HNW.out (by rw [HEN.out]; rfl)))
  have HW6 := Lib.hid hW6
  have HKLT := Lib.hid ((Array.getElem?_eq_some_iff.1 HKK.out).1)
  have HNK := Lib.hid (HNE.out p hp)
  have HLT := Lib.hid (fun g (hg : (vs p).ownBlock = some g) => (HK.out.list p hp).lt hg)
  have HBLT := Lib.hid ((Array.getElem?_eq_some_iff.1 HEB.out).1)
  rw [HVP.out] at HLT
  rw [HVP.out] at HNK
  have f0a : (W5.alloc (.cells #[.int .i64 (p : Int), .int .i64 ((n : Int) + 1), .int .i64 cnt, .string line] 43)).cell? ⟨K, p, none⟩ = some (.slice a n cap) := keep_cell ((Below.refl _ _).alloc (Nat.le_refl _) _) f0
  clear hW6
  go_region_law (first
    | ((rw [← HW6.out]; refine step_append_run (by rfl) _ _ _ (by rfl) (.slice a n cap) (.slice (some ⟨W5.heap.size, 0, none⟩) 1 1) (by rfl) (by rfl) (AppKeeps (.slice a n cap) (b p) en0 W6) (HAP.out _) ?_; intro v' W7 hR; obtain ⟨g', cap', rfl⟩ := hR.is; have HR := Lib.hid hR; have HK7 := Lib.hid ((hR.grown.block K (Nat.lt_of_lt_of_le HKLT.out HX6.out.size) (fun e => HNK.out K e.symm rfl)).trans ((HX6.out.block K HKLT.out).trans HKK.out)); have c7 : W7.cell? ⟨K, p, none⟩ = some (.slice a n cap) := (World.cell?_of_block (hR.grown.block K (Nat.lt_of_lt_of_le HKLT.out HX6.out.size) (fun e => HNK.out K e.symm rfl))).trans (keep_cell HX6.out f0); have f7 : W7.frozen? ⟨K, p, none⟩ = false := (by have := HK7.out; simp [World.frozen?, this]); have HE7 := Lib.hid ((hR.grown.block w.heap.size (Nat.lt_of_lt_of_le HBLT.out HX6.out.size) (fun e => Nat.lt_irrefl _ (HLT.out _ e.symm))).trans ((HX6.out.block w.heap.size HBLT.out).trans HEB.out)); have g1 := heap_cell (j := 0) HE7.out rfl; have g2 := heap_cell (j := 1) HE7.out rfl; have g3 := heap_cell (j := 2) HE7.out rfl; have g4 := heap_cell (j := 3) HE7.out rfl; clear hR))
    | fail)
  all_goals go_wp2
  all_goals go_ret
  all_goals exact ⟨rfl, _, by rw [show (ePost en0).toNat = p by rw [HEN.out]; exact Int.toNat_natCast p]; exact added_end hp HB5.out HX6.out HKK.out HLL.out HNE.out HK.out.apart (by rw [HVP.out]; exact HR.out)⟩
end Go.Proofs.YtdfkaijeppdhaaaGreatDoor

/- Contract of the reference: Do (Post). -/
import Derived.Test.YtdfkaijeppdhaaaGreatDoorSt
import Derived.Test.YtdfkaijeppdhaaaGreatDoorSj
import Derived.Test.YtdfkaijeppdhaaaGreatDoorEw
import Derived.Deep.RegionHeld3
import Derived.Deep.RegionLaw
import Derived.Deep.DeepCutAuto
namespace Go.Proofs.YtdfkaijeppdhaaaGreatDoor
open Go.RowKit Go.Shelf

def RDoPost (P n : Nat) (vs : Nat → Value) (b : Book) (r : ByteArray × Int × Book) (w : World) (e : Ending) (w' : World) : Prop :=
  e = .returned (.tuple #[.string r.1, .int .i64 r.2.1]) ∧ ∃ us, RfAt w' P n us r.2.2 ∧ Rows2 w w' b r.2.2 vs us ∧ Off [P] w w'
/-- Do, by the reference's answer. -/
theorem doB_ref (b : Book) (n : Nat) (line : ByteArray) : doB b n line =
    if (deedV (saysR (allB b) []) line).1.2 = 100 then (emp, 100, b) else if 60 ≤ (b n).length ∨ 1000000 ≤ cntB b then (emp, 4, b) else
      if (deedV (saysR (allB b) []) line).1.2 = 0 then ((deedV (saysR (allB b) []) line).1.1, 0, addAt b n (newE b n line)) else (emp, (deedV (saysR (allB b) []) line).1.2, b) := by
  have h := deedV_same (saysR (allB b) []) line
  rw [saysR_kn] at h
  unfold deedP at h
  unfold doB
  cases hp : parseB line with
  | none => rw [hp] at h; simp only at h ⊢; rw [h]; simp
  | some c =>
    rw [hp] at h
    cases hd : c.deed with
    | false => simp only [hd, Bool.false_eq_true, if_false] at h; simp only [hd, if_true]; rw [h]; simp
    | true =>
      simp only [hd, if_true] at h
      obtain ⟨h1, _⟩ := h
      rw [h1]
      have hne : ¬ (sayB c (saysB (allB b))).1.2 = 100 := by
        cases c with
        | put x y => simp [sayB]
        | drop x => simp only [sayB]; split <;> simp
        | add x y => simp [sayB]
        | stock x => cases hd
        | share x y => cases hd
        | asked x y z => cases hd
      simp only [hd, Bool.true_eq_false, if_false, if_neg hne]
/-- Nothing turns. -/
theorem rdo_keep {P n : Nat} {vs : Nat → Value} {b : Book} {w w' : World} (h : RfAt w P n vs b) (hb : Below w.heap.size w w') : ∃ us, RfAt w' P n us b ∧ Rows2 w w' b b vs us ∧ Off [P] w w' :=
  ⟨vs, h.below hb, fun i hi h0 g hg => .inl ⟨i, hi, h0, hg⟩, Off.of_below hb⟩
theorem run_append_zero (W : World) (ty : TypeId) {g0 : Nat} (h0 : W.heap[g0]? = some (.cells #[] 43 (0, 0))) (a : Option Addr) (c : Nat) :
    (Builtin.append_ #[40, 40] ty #[.slice (some ⟨g0, 0, none⟩) 0 0, .slice a 0 c]).run Tryz.prog W = .ok (.slice (some ⟨g0, 0, none⟩) 0 0) W := by
  obtain ⟨i0, hi0, hz0, hz1, hz2⟩ := info_parts Tryz.infoEnt
  cases a <;> simp [Builtin.append_, run_underlying Tryz.underlying40, sizeOf, typeInfo, hi0, Builtin.lenOf, Builtin.firstCells, storeCells, loadCells, loadCellsFrom]
/-- What the first append leaves. -/
structure App1 (b0 g0 : Nat) (l : List Ent) (W : World) (v : Value) (W' : World) : Prop where
  row : W'.ownsRow b0 43 4 v l.length (rowE l)
  grown : W.grownBy W' (some g0)
  is : ∃ g c, v = .slice (some ⟨g, 0, none⟩) l.length c
theorem app_first (b0 : Nat) {W : World} {g0 : Nat} (h0 : W.heap[g0]? = some (.cells #[] 43 (0, 0))) (hb : b0 ≤ g0) {a : Option Addr} {c : Nat} {l : List Ent} {n : Nat} (hn : n = l.length) (hE : EntsAt W (.slice a n c) l) (hl : n ≤ 100) (ty : TypeId) :
    ∃ v W', (Builtin.append_ #[40, 40] ty #[.slice (some ⟨g0, 0, none⟩) 0 0, .slice a n c]).run Tryz.prog W = .ok v W' ∧ App1 b0 g0 l W v W' := by
  subst hn
  obtain ⟨i0, hi0, hz0, hz1, hz2⟩ := info_parts Tryz.infoEnt
  have hlt := (Array.getElem?_eq_some_iff.1 h0).1
  by_cases hz : l.length = 0
  · have hl0 := List.length_eq_zero_iff.1 hz
    subst hl0
    exact ⟨_, _, run_append_zero W ty h0 a c, own_none W _ _ 4 h0 hb, ⟨rfl, rfl, rfl, Nat.le_refl _, fun _ _ _ => rfl⟩, g0, 0, rfl⟩
  · obtain ⟨g, off, c', hv, _⟩ := hE.entry (k := 0) (by omega)
    simp only [Value.slice.injEq] at hv
    obtain ⟨rfl, _, rfl⟩ := hv
    obtain ⟨v', W', hrun, hown, hgr, _⟩ := run_append_own (P := Tryz.prog) (w := W) b0 40 ty 43 i0 _ 4 40 Tryz.underlying40 hi0 hz0 hz1 hz2 rfl (by decide) (.slice (some ⟨g0, 0, none⟩) 0 0) 0 [] (own_none W _ _ 4 h0 hb) ⟨g, off, none⟩ l.length c (rowE l) (rowE_len l) hE.news (rowE_one _) (by unfold maxLen; omega) (by omega) (by omega)
    rw [Nat.zero_add, List.nil_append] at hown
    obtain ⟨g1, c1, hv1, _⟩ := hown.form (by omega)
    exact ⟨v', W', hrun, hown, hgr, g1, c1, hv1⟩
/-- What the second append leaves. -/
structure App2 (b0 : Nat) (v1 : Value) (l : List Ent) (e : Ent) (W : World) (v : Value) (W' : World) : Prop where
  row : W'.ownsRow b0 43 4 v (l ++ [e]).length (rowE (l ++ [e]))
  grown : W.grownBy W' v1.ownBlock
  is : ∃ g c, v = .slice (some ⟨g, 0, none⟩) (l.length + 1) c
theorem app_second {b0 : Nat} {W : World} {v1 : Value} {l : List Ent} (hr : W.ownsRow b0 43 4 v1 l.length (rowE l)) (hbw : b0 ≤ W.heap.size) (hl : l.length ≤ 100) {ge : Nat} {e : Ent} {c0 c1 c2 c3 : Value} (he : W.heap[ge]? = some (.cells #[c0, c1, c2, c3] 43 (0, 0))) (hc : entC e = [c0, c1, c2, c3]) (ty : TypeId) :
    ∃ v W', (Builtin.append_ #[40, 40] ty #[v1, .slice (some ⟨ge, 0, none⟩) 1 1]).run Tryz.prog W = .ok v W' ∧ App2 b0 v1 l e W v W' := by
  obtain ⟨i0, hi0, hz0, hz1, hz2⟩ := info_parts Tryz.infoEnt
  obtain ⟨v', W', hrun, hown, hgr, _⟩ := run_append_own (P := Tryz.prog) (w := W) b0 40 ty 43 i0 _ 4 40 Tryz.underlying40 hi0 hz0 hz1 hz2 rfl (by decide) v1 l.length (rowE l) hr ⟨ge, 0, none⟩ 1 1 (rowE [e]) (by rw [rowE_len]; rfl) (row4_news he hc) (rowE_one _) (by unfold maxLen; omega) (by omega) hbw
  obtain ⟨g1, c1, hv1, _⟩ := hown.form (by omega)
  exact ⟨v', W', hrun, by rw [List.length_append, List.length_singleton, rowE_append]; exact hown, hgr, g1, c1, hv1⟩
/-- The post behind Do. -/
theorem do_end {P n : Nat} {vs : Nat → Value} {b : Book} {e : Ent} {w wc W9 : World} {v9 : Value} (hn : n < 4) (hok : (b n).length ≤ 60) (hw : Below w.heap.size w wc) (h : RfAt wc P n vs b) (hPw : P < w.heap.size) (hne : ∀ i, i < 4 → 0 < (b i).length → (vs i).ownBlock ≠ some P)
    (hk : KB wc W9) (hr : W9.ownsRow wc.heap.size 43 4 v9 (b n ++ [e]).length (rowE (b n ++ [e]))) :
    (∃ us, RfAt (W9.setCell ⟨P, 1 + n, none⟩ v9) P n us (addAt b n e) ∧ Rows2 w (W9.setCell ⟨P, 1 + n, none⟩ v9) b (addAt b n e) vs us ∧ Off [P] w (W9.setCell ⟨P, 1 + n, none⟩ v9)) ∧ W9.cell? ⟨P, 1 + n, none⟩ = some (vs n) ∧ W9.frozen? ⟨P, 1 + n, none⟩ = false := by
  have hP9 := (Below.block hk P h.lt).trans h.1
  have hsz := Below.size hk
  have hsw := hw.size
  have hadd : addAt b n e n = b n ++ [e] := by unfold addAt; rw [setB_same]
  have hado : ∀ i, i ≠ n → addAt b n e i = b i := fun i hi => by unfold addAt; rw [setB_other _ _ hi]
  refine ⟨⟨setVs vs n v9, ⟨?_, fun i hi => ?_⟩, fun i hi h0 g hg => ?_, ((Off.of_below hw).trans (Off.of_below hk)).set _ _⟩, ?_, by simp [World.frozen?, hP9]⟩
  · rw [setCell_five hP9]
    congr 1
    unfold setVs
    rcases (show n = 0 ∨ n = 1 ∨ n = 2 ∨ n = 3 by omega) with rfl | rfl | rfl | rfl <;> simp
  · by_cases hin : i = n
    · subst hin
      rw [setVs_same, hadd]
      have hl : EntsAt W9 v9 (b i ++ [e]) := ListAt.ents (own_base hr (Nat.zero_le _)) (by rw [List.length_append, List.length_singleton]; omega)
      exact hl.keep fun _ g hg => Below.heap_setCell _ _ _ g (by have := (hr.lt g hg).1; show g ≠ P; omega)
    · rw [setVs_other _ _ hin, hado i hin]
      refine (h.2 i hi).keep fun h0 g hg => ?_
      have hgl := (h.2 i hi).lt h0 hg
      exact (Below.heap_setCell _ _ _ g (fun e2 => hne i hi h0 (by rw [hg, e2]))).trans (Below.block hk g hgl)
  · by_cases hin : i = n
    · subst hin
      rw [setVs_same] at hg
      have := hr.lt g hg
      exact .inr ⟨by omega, by rw [World.size_setCell]; exact this.2⟩
    · rw [setVs_other _ _ hin] at hg
      rw [hado i hin] at h0
      exact .inl ⟨i, hi, h0, hg⟩
  · rcases (show n = 0 ∨ n = 1 ∨ n = 2 ∨ n = 3 by omega) with rfl | rfl | rfl | rfl <;> exact heap_cell hP9 rfl
theorem KB.grown {w W W' : World} {g : Nat} (h : KB w W) (hg : W.grownBy W' (some g)) (hw : w.heap.size ≤ g) : KB w W' := Below.grown h hg (Below.size h) (fun k e => by injection e with e; omega)
/-- What a region keeps that stores into a list of the post in the block P. -/
structure KQ (P : Nat) (v : Value) (w W : World) : Prop where
  off : Off [P] w W
  num : W.cell? ⟨P, 0, none⟩ = some v
  lt : P < W.heap.size
theorem KQ.drew {P : Nat} {v : Value} {w W : World} (h : KQ P v w W) : KQ P v w W.drew := ⟨h.off.drew, h.num, h.lt⟩
theorem KQ.alloc {P : Nat} {v : Value} {w W : World} (h : KQ P v w W) (o : Obj) : KQ P v w (W.alloc o) :=
  ⟨h.off.alloc o, (World.cell?_of_block (Below.heap_alloc _ _ _ (by exact h.lt))).trans h.num, by have := h.lt; simp; omega⟩
theorem KQ.of_kb {P : Nat} {v : Value} {w W : World} (h : KB w W) (hv : w.cell? ⟨P, 0, none⟩ = some v) : KQ P v w W :=
  ⟨Off.of_below h, keep_cell h hv, Nat.lt_of_lt_of_le (World.block_lt_of_cell? _ _ hv) (Below.size h)⟩
theorem KQ.set {P : Nat} {v : Value} {w W : World} (h : KQ P v w W) (j : Nat) (x : Value) : KQ P v w (W.setCell ⟨P, 1 + j, none⟩ x) := by
  refine ⟨h.off.set _ _, ?_, by rw [World.size_setCell]; exact h.lt⟩
  rw [← h.num]
  exact World.cell?_setCell_other _ _ _ _ (by intro e; injection e with _ e; omega)
theorem KQ.cell {P : Nat} {v : Value} {w W : World} (h : KQ P v w W) {b j : Nat} {x : Value} (hb : b ≠ P) (hc : w.cell? ⟨b, j, none⟩ = some x) : W.cell? ⟨b, j, none⟩ = some x :=
  (World.cell?_of_block (h.off.block b (World.block_lt_of_cell? _ _ hc) (by simpa using hb))).trans hc
set_option maxRecDepth 100000 in
set_option maxHeartbeats 8000000 in
theorem rdo_any (P n : Nat) (hn : n < 4) (vs : Nat → Value) (b : Book) (line : ByteArray) (hs : line.size ≤ 1000000) (w : World) (h : RfAt w P n vs b) (hok : BookOk b) (hne : ∀ i, i < 4 → 0 < (b i).length → (vs i).ownBlock ≠ some P) :
    Calls Tryz.prog 28 #[.pointer (some ⟨P, 0, none⟩), .string line] w (RDoPost P n vs b (doB b n line) w) := by
  have HDB := Lib.hid (doB_ref b n line)
  obtain ⟨D, hD⟩ : ∃ D, D = doB b n line := ⟨_, rfl⟩
  rw [← hD] at HDB ⊢
  clear hD
  obtain ⟨ra, re, rl, hr⟩ : ∃ ra re rl, deedV (saysR (allB b) []) line = ((ra, re), rl) := ⟨_, _, _, rfl⟩
  rw [hr] at HDB
  have HR := Lib.hid hr
  have HSY := Lib.hid (rsays_any P n vs b w h hok)
  have HLA : Hid ((allB b).length ≤ 240) := Lib.hid (by rw [allB_len]; exact lenB_le hok)
  have HRF := Lib.hid h
  have HOK := Lib.hid hok
  have HNE := Lib.hid hne
  clear hr h hok hne
  by_cases h100 : re = 100
  · have HD1 : Hid (D = (emp, 100, b)) := Lib.hid (by rw [HDB.out, if_pos h100])
    subst h100
    go_enter Tryz.func28, Tryz.ntmps28
    go_wp2_with fail
    refine HSY.out.mono ?_
    rintro e w1 ⟨B, rfl, hsy, hb1⟩
    have HDE := Lib.hid (rdeed_any w.heap.size B (saysR (allB b) []) line hs w1 hsy (by
      have h9 := saysR_len (allB b) []
      simp only [List.length_nil] at h9
      have := HLA.out
      omega) (saysR_sum _ (by have := HLA.out; omega)))
    unfold DeedPost at HDE
    rw [HR.out] at HDE
    go_wp2_with fail
    refine HDE.out.mono ?_
    rintro e w2 ⟨rfl, hs2, ht2⟩
    have HB2 := Lib.hid (hb1.trans (ht2.below (by obtain ⟨_, _, _, h8⟩ := hsy; exact h8.low) hb1.size))
    clear hsy hb1 hs2 ht2
    go_wp2
    go_ret2
    rw [HD1.out]
    exact ⟨rfl, rdo_keep HRF.out HB2.out⟩
  · have hre : ((re : Int) == 100) = false := by rw [beq_eq_false_iff_ne]; exact h100
    have HD1 : Hid (D = if 60 ≤ (b n).length ∨ 1000000 ≤ cntB b then (emp, 4, b) else if re = 0 then (ra, 0, addAt b n (newE b n line)) else (emp, re, b)) := Lib.hid (by rw [HDB.out, if_neg h100])
    have hlen := (HOK.out n hn).len
    have hcnt := cntB_le HOK.out
    have hn4 : (n : Int) < 4 := by omega
    have hn0 : (0 : Int) ≤ (n : Int) := by omega
    obtain ⟨len, hlen2⟩ : ∃ len, len = (b n).length := ⟨_, rfl⟩
    have HLN := Lib.hid hlen2
    obtain ⟨ct, hct⟩ : ∃ ct, ct = cntB b := ⟨_, rfl⟩
    have HCT := Lib.hid hct
    rw [← hlen2] at hlen HD1
    rw [← hct] at hcnt HD1
    clear hlen2 hct h100 HDB
    have HCO := Lib.hid (fun W (h : RfAt W P n vs b) => rcount_any P n vs b W h HOK.out)
    rw [← HCT.out] at HCO
    by_cases h60 : 60 ≤ len
    · have HD2 : Hid (D = (emp, 4, b)) := Lib.hid (by rw [HD1.out, if_pos (.inl h60)])
      have h60i : (60 : Int) ≤ (len : Int) := by omega
      clear HD1 h60
      go_enter Tryz.func28, Tryz.ntmps28
      go_wp2_with fail
      refine HSY.out.mono ?_
      rintro e w1 ⟨B, rfl, hsy, hb1⟩
      have HDE := Lib.hid (rdeed_any w.heap.size B (saysR (allB b) []) line hs w1 hsy (by
        have h9 := saysR_len (allB b) []
        simp only [List.length_nil] at h9
        have := HLA.out
        omega) (saysR_sum _ (by have := HLA.out; omega)))
      unfold DeedPost at HDE
      rw [HR.out] at HDE
      go_wp2_with fail
      refine HDE.out.mono ?_
      rintro e w2 ⟨rfl, hs2, ht2⟩
      have HB2 := Lib.hid (hb1.trans (ht2.below (by obtain ⟨_, _, _, h8⟩ := hsy; exact h8.low) hb1.size))
      clear hsy hb1 hs2 ht2
      have HR2 := Lib.hid (HRF.out.below HB2.out)
      have c0 := heap_cell (j := 0) HR2.out.1 rfl
      have c1 := HR2.out.cell hn
      obtain ⟨a, cap, hv⟩ := (HR2.out.2 n hn).shape
      rw [hv, ← HLN.out] at c1
      clear hv
      go_wp2
      go_quiet (fail)
      have HB3 := Lib.hid (belowD HB2.out nq)
      go_wp2
      go_ret2
      rw [HD2.out]
      exact ⟨rfl, rdo_keep HRF.out HB3.out⟩
    · have h60i : ¬ (60 : Int) ≤ (len : Int) := by omega
      by_cases hct6 : 1000000 ≤ ct
      · have HD2 : Hid (D = (emp, 4, b)) := Lib.hid (by rw [HD1.out, if_pos (.inr hct6)])
        clear HD1 h60
        go_enter Tryz.func28, Tryz.ntmps28
        go_wp2_with fail
        refine HSY.out.mono ?_
        rintro e w1 ⟨B, rfl, hsy, hb1⟩
        have HDE := Lib.hid (rdeed_any w.heap.size B (saysR (allB b) []) line hs w1 hsy (by
          have h9 := saysR_len (allB b) []
          simp only [List.length_nil] at h9
          have := HLA.out
          omega) (saysR_sum _ (by have := HLA.out; omega)))
        unfold DeedPost at HDE
        rw [HR.out] at HDE
        go_wp2_with fail
        refine HDE.out.mono ?_
        rintro e w2 ⟨rfl, hs2, ht2⟩
        have HB2 := Lib.hid (hb1.trans (ht2.below (by obtain ⟨_, _, _, h8⟩ := hsy; exact h8.low) hb1.size))
        clear hsy hb1 hs2 ht2
        have HR2 := Lib.hid (HRF.out.below HB2.out)
        have c0 := heap_cell (j := 0) HR2.out.1 rfl
        have c1 := HR2.out.cell hn
        obtain ⟨a, cap, hv⟩ := (HR2.out.2 n hn).shape
        rw [hv, ← HLN.out] at c1
        clear hv
        go_wp2
        go_quiet (fail)
        have HB3 := Lib.hid (belowD HB2.out nq)
        go_wp2_with fail
        refine (HCO.out _ (HRF.out.below HB3.out)).mono ?_
        rintro e w4 ⟨rfl, rfl⟩
        go_wp2
        go_ret2
        rw [HD2.out]
        exact ⟨rfl, rdo_keep HRF.out HB3.out⟩
      · have hct6i : ¬ 1000000 ≤ ct := hct6
        have HD2 : Hid (D = if re = 0 then (ra, 0, addAt b n (newE b n line)) else (emp, re, b)) := Lib.hid (by rw [HD1.out, if_neg (by omega)])
        clear HD1
        by_cases h0 : re = 0
        · have HD3 : Hid (D = (ra, 0, addAt b n (newE b n line))) := Lib.hid (by rw [HD2.out, if_pos h0])
          subst h0
          clear HD2
          go_enter Tryz.func28, Tryz.ntmps28
          go_wp2_with fail
          refine HSY.out.mono ?_
          rintro e w1 ⟨B, rfl, hsy, hb1⟩
          have HDE := Lib.hid (rdeed_any w.heap.size B (saysR (allB b) []) line hs w1 hsy (by
            have h9 := saysR_len (allB b) []
            simp only [List.length_nil] at h9
            have := HLA.out
            omega) (saysR_sum _ (by have := HLA.out; omega)))
          unfold DeedPost at HDE
          rw [HR.out] at HDE
          go_wp2_with fail
          refine HDE.out.mono ?_
          rintro e w2 ⟨rfl, hs2, ht2⟩
          have HB2 := Lib.hid (hb1.trans (ht2.below (by obtain ⟨_, _, _, h8⟩ := hsy; exact h8.low) hb1.size))
          clear hsy hb1 hs2 ht2
          have HR2 := Lib.hid (HRF.out.below HB2.out)
          have c0 := heap_cell (j := 0) HR2.out.1 rfl
          have c1 := HR2.out.cell hn
          obtain ⟨a, cap, hv⟩ := (HR2.out.2 n hn).shape
          rw [hv, ← HLN.out] at c1
          have HVN := Lib.hid hv
          clear hv
          go_wp2
          go_quiet (fail)
          have HB3 := Lib.hid (belowD HB2.out nq)
          go_wp2_with fail
          refine (HCO.out _ (HRF.out.below HB3.out)).mono ?_
          rintro e w4 ⟨rfl, rfl⟩
          go_wp2
          refine wp_forget1 (fun W5 hX5 => ?_)
          have HX5 := Lib.hid hX5
          have HB5 : Hid (Below w.heap.size w W5) := Lib.hid (HB2.out.trans (hX5.mono HB2.out.size))
          have HR5 := Lib.hid (HRF.out.below HB5.out)
          have HC5 := Lib.hid (fun W (hW : KB W5 W) => HCO.out W (HR5.out.below hW))
          have r0 : ∀ W, KB W5 W → W.cell? ⟨P, 0, none⟩ = some (.int .i64 (n : Int)) := fun W hW => keep_cell hW (heap_cell HR5.out.1 rfl)
          have v1 : IntKind.i64.wrap ((len : Int) + 1) = (len : Int) + 1 := IntWalk.i64_in _ (by omega)
          have v2 : IntKind.i64.wrap (ct + 1) = ct + 1 := IntWalk.i64_in _ (by omega)
          clear c0 c1 HR2 hX5
          go_cut [9] (fun s9 wx => ∃ g, s9 = .pointer (some ⟨g, 0, none⟩) ∧ W5.heap.size ≤ g ∧ wx.heap[g]? = some (.cells #[.int .i64 (n : Int), .int .i64 ((len : Int) + 1), .int .i64 (ct + 1), .string line] 43 (0, 0)) ∧ KB W5 wx)
          case first =>
            go_region_held3 (fun W => KB W5 W) (first | exact KB.drew (KB.refl _) | assumption | (unfold KB at *; repeat (first | assumption | exact Below.refl _ _ | refine Below.setCell ?_ (by first | omega | (simp; done) | (simp; omega)) _ | refine Below.drew ?_ | refine Below.alloc ?_ (by first | omega | (simp; done) | (simp; omega)) _)) | fail) (first
              | (go_at_call 61; refine (HC5.out _ (by first | exact KB.drew (KB.refl _) | assumption | (unfold KB; exact (Below.refl _ _).alloc (Nat.le_refl _) _) | (unfold KB; exact ((Below.refl _ _).alloc (Nat.le_refl _) _).drew))).mono ?_; rintro e w2 ⟨rfl, rfl⟩)
              | fail)
            all_goals (go_wp2_with fail; go_meet)
            all_goals exact ⟨_, rfl, Nat.le_refl _, World.alloc_heap_new W5 _, KB.drew (KB.alloc (KB.refl _) _)⟩
          case rest =>
            obtain ⟨ge, rfl, hge, hcells, hk⟩ := hcut
            have HGE := Lib.hid hcells
            have HKB := Lib.hid hk
            have HRX := Lib.hid (HR5.out.below hk)
            have HPW : Hid (P < w.heap.size) := Lib.hid HRF.out.lt
            have HPE : Hid (ge ≠ P) := Lib.hid (by
              have h1 := HRF.out.lt
              have h2 := HB5.out.size
              omega)
            have HN0 : Hid (wc.cell? ⟨P, 0, none⟩ = some (.int .i64 (n : Int))) := Lib.hid (heap_cell HRX.out.1 rfl)
            have HWC : Hid (Below w.heap.size w wc) := Lib.hid (HB5.out.trans (Below.mono hk HB5.out.size))
            have HEX : Hid (EntsAt wc (.slice a len cap) (b n)) := Lib.hid (by have h9 := HRX.out.2 n hn; rw [HVN.out, ← HLN.out] at h9; exact h9)
            have q0 : ∀ W, KQ P (.int .i64 (n : Int)) wc W → W.cell? ⟨P, 0, none⟩ = some (.int .i64 (n : Int)) := fun W hW => hW.num
            have q1 : ∀ W, KQ P (.int .i64 (n : Int)) wc W → W.cell? ⟨ge, 0, none⟩ = some (.int .i64 (n : Int)) := fun W hW => hW.cell HPE.out (heap_cell HGE.out rfl)
            have q2 : ∀ W, KQ P (.int .i64 (n : Int)) wc W → W.cell? ⟨ge, 1, none⟩ = some (.int .i64 ((len : Int) + 1)) := fun W hW => hW.cell HPE.out (heap_cell HGE.out rfl)
            have q3 : ∀ W, KQ P (.int .i64 (n : Int)) wc W → W.cell? ⟨ge, 2, none⟩ = some (.int .i64 (ct + 1)) := fun W hW => hW.cell HPE.out (heap_cell HGE.out rfl)
            have q4 : ∀ W, KQ P (.int .i64 (n : Int)) wc W → W.cell? ⟨ge, 3, none⟩ = some (.string line) := fun W hW => hW.cell HPE.out (heap_cell HGE.out rfl)
            have hk0 : KQ P (.int .i64 (n : Int)) wc wc := KQ.of_kb (KB.refl _) HN0.out
            obtain ⟨e0, he0⟩ : ∃ e0, e0 = newE b n line := ⟨_, rfl⟩
            have HEC : Hid (entC e0 = [.int .i64 (n : Int), .int .i64 ((len : Int) + 1), .int .i64 (ct + 1), .string line]) := Lib.hid (by rw [he0, HLN.out, HCT.out]; rfl)
            rw [← he0] at HD3
            have HLW : Hid ((b n).length ≤ 60) := Lib.hid (by rw [← HLN.out]; exact hlen)
            have HEND := Lib.hid (fun W9 v9 hk hr => do_end (W9 := W9) (v9 := v9) (e := e0) hn HLW.out HWC.out HRX.out HPW.out HNE.out hk hr)
            clear r0 v1 v2 hcells hk hge HC5 he0
            obtain ⟨W6a, hW6a⟩ : ∃ W6, W6 = (wc.alloc (.cells #[] 43)).drew := ⟨_, rfl⟩
            have HK6a : Hid (KB wc W6a) := Lib.hid (by rw [hW6a]; repeat (first | exact KB.refl _ | refine KB.drew ?_ | refine KB.alloc ?_ _))
            have HE6a : Hid (W6a.heap[wc.heap.size]? = some (.cells #[] 43 (0, 0))) := Lib.hid (by rw [hW6a]; exact World.alloc_heap_new wc _)
            have HAa := Lib.hid (fun ty => app_first wc.heap.size HE6a.out (by omega) HLN.out (HEX.out.below HK6a.out) (by omega) ty)
            have HW6a := Lib.hid hW6a
            obtain ⟨W6b, hW6b⟩ : ∃ W6, W6 = ((wc.alloc (.cells #[] 43)).alloc (.cells #[.int .i64 (n : Int), .int .i64 ((len : Int) + 1), .int .i64 (ct + 1), .string line] 43)).drew := ⟨_, rfl⟩
            have HK6b : Hid (KB wc W6b) := Lib.hid (by rw [hW6b]; repeat (first | exact KB.refl _ | refine KB.drew ?_ | refine KB.alloc ?_ _))
            have HE6b : Hid (W6b.heap[wc.heap.size]? = some (.cells #[] 43 (0, 0))) := Lib.hid (by rw [hW6b]; exact (Below.heap_alloc _ _ _ (by simp)).trans (World.alloc_heap_new wc _))
            have HAb := Lib.hid (fun ty => app_first wc.heap.size HE6b.out (by omega) HLN.out (HEX.out.below HK6b.out) (by omega) ty)
            have HW6b := Lib.hid hW6b
            obtain ⟨W6c, hW6c⟩ : ∃ W6, W6 = ((wc.alloc (.cells #[.int .i64 (n : Int), .int .i64 ((len : Int) + 1), .int .i64 (ct + 1), .string line] 43)).alloc (.cells #[] 43)).drew := ⟨_, rfl⟩
            have HK6c : Hid (KB wc W6c) := Lib.hid (by rw [hW6c]; repeat (first | exact KB.refl _ | refine KB.drew ?_ | refine KB.alloc ?_ _))
            have HE6c : Hid (W6c.heap[wc.heap.size + 1]? = some (.cells #[] 43 (0, 0))) := Lib.hid (by rw [hW6c]; exact by have h9 := World.alloc_heap_new (wc.alloc (.cells #[.int .i64 (n : Int), .int .i64 ((len : Int) + 1), .int .i64 (ct + 1), .string line] 43)) (.cells #[] 43); rw [World.size_alloc] at h9; exact h9)
            have HAc := Lib.hid (fun ty => app_first wc.heap.size HE6c.out (by omega) HLN.out (HEX.out.below HK6c.out) (by omega) ty)
            have HW6c := Lib.hid hW6c
            have HNB : Hid (W6b.heap[wc.heap.size + 1]? = some (.cells #[.int .i64 (n : Int), .int .i64 ((len : Int) + 1), .int .i64 (ct + 1), .string line] 43 (0, 0))) := Lib.hid (by rw [hW6b]; exact (by have h9 := World.alloc_heap_new (wc.alloc (.cells #[] 43)) (.cells #[.int .i64 (n : Int), .int .i64 ((len : Int) + 1), .int .i64 (ct + 1), .string line] 43); rw [World.size_alloc] at h9; exact h9))
            have HNC : Hid (W6c.heap[wc.heap.size]? = some (.cells #[.int .i64 (n : Int), .int .i64 ((len : Int) + 1), .int .i64 (ct + 1), .string line] 43 (0, 0))) := Lib.hid (by rw [hW6c]; exact (Below.heap_alloc _ _ _ (by simp)).trans (World.alloc_heap_new wc _))
            clear hW6a hW6b hW6c
            go_wp2
            go_region_held3 (fun W => KQ P (.int .i64 (n : Int)) wc W) (repeat (first | (with_reducible assumption) | (with_reducible refine KQ.drew ?_) | (with_reducible refine KQ.alloc ?_ _) | (with_reducible refine KQ.set ?_ _ _))) (first
              | ((rw [← HW6a.out]; refine step_append_run (by rfl) _ _ _ (by rfl) (.slice (some ⟨wc.heap.size, 0, none⟩) 0 0) (.slice a len cap) (by rfl) (by rfl) (App1 wc.heap.size wc.heap.size (b n) W6a) (HAa.out _) ?_; intro v7 W7 hR; obtain ⟨g7, k7, rfl⟩ := hR.is; have hk7 : KB wc W7 := HK6a.out.grown hR.grown (Nat.le_refl _); have HK7 := Lib.hid hk7; have hq7 : KQ P (.int .i64 (n : Int)) wc W7 := KQ.of_kb hk7 HN0.out; have HR7 := Lib.hid hR.row; obtain ⟨W8, hW8⟩ : ∃ W8, W8 = W7.alloc (.cells #[.int .i64 (n : Int), .int .i64 ((len : Int) + 1), .int .i64 (ct + 1), .string line] 43) := ⟨_, rfl⟩; have HKa8 : Hid (KB wc W8) := Lib.hid (by rw [hW8]; exact hk7.alloc _); have HR8 : Hid (W8.ownsRow wc.heap.size 43 4 (.slice (some ⟨g7, 0, none⟩) (b n).length k7) (b n).length (rowE (b n))) := Lib.hid (by rw [hW8]; exact hR.row.alloc _); have HBa := Lib.hid (fun ty => app_second HR8.out (Below.size HKa8.out) (by have := HLW.out; omega) (ge := W7.heap.size) (e := e0) (by rw [hW8]; exact World.alloc_heap_new W7 _) HEC.out ty); have hq8 : KQ P (.int .i64 (n : Int)) wc W8 := KQ.of_kb HKa8.out HN0.out; have HW8 := Lib.hid hW8; have HG7 := Lib.hid (hR.row.lt g7 rfl).1; rw [← HLN.out] at HBa; rw [← HLN.out]; clear hR hW8))
              | ((rw [← HW6b.out]; refine step_append_run (by rfl) _ _ _ (by rfl) (.slice (some ⟨wc.heap.size, 0, none⟩) 0 0) (.slice a len cap) (by rfl) (by rfl) (App1 wc.heap.size wc.heap.size (b n) W6b) (HAb.out _) ?_; intro v7 W7 hR; obtain ⟨g7, k7, rfl⟩ := hR.is; have hk7 : KB wc W7 := HK6b.out.grown hR.grown (Nat.le_refl _); have HK7 := Lib.hid hk7; have hq7 : KQ P (.int .i64 (n : Int)) wc W7 := KQ.of_kb hk7 HN0.out; have HBb := Lib.hid (fun ty => app_second hR.row (Below.size hk7) (by have := HLW.out; omega) (ge := wc.heap.size + 1) (e := e0) ((hR.grown.block (wc.heap.size + 1) (Array.getElem?_eq_some_iff.1 HNB.out).1 (fun e => by injection e with e; omega)).trans HNB.out) HEC.out ty); have HG7 := Lib.hid (hR.row.lt g7 rfl).1; rw [← HLN.out] at HBb; rw [← HLN.out]; clear hR))
              | ((rw [← HW6c.out]; refine step_append_run (by rfl) _ _ _ (by rfl) (.slice (some ⟨wc.heap.size + 1, 0, none⟩) 0 0) (.slice a len cap) (by rfl) (by rfl) (App1 wc.heap.size (wc.heap.size + 1) (b n) W6c) (HAc.out _) ?_; intro v7 W7 hR; obtain ⟨g7, k7, rfl⟩ := hR.is; have hk7 : KB wc W7 := HK6c.out.grown hR.grown (Nat.le_succ _); have HK7 := Lib.hid hk7; have hq7 : KQ P (.int .i64 (n : Int)) wc W7 := KQ.of_kb hk7 HN0.out; have HBc := Lib.hid (fun ty => app_second hR.row (Below.size hk7) (by have := HLW.out; omega) (ge := wc.heap.size) (e := e0) ((hR.grown.block wc.heap.size (Array.getElem?_eq_some_iff.1 HNC.out).1 (fun e => by injection e with e; omega)).trans HNC.out) HEC.out ty); have HG7 := Lib.hid (hR.row.lt g7 rfl).1; rw [← HLN.out] at HBc; rw [← HLN.out]; clear hR))
              | ((rw [← HW8.out]; refine step_append_run (by rfl) _ _ _ (by rfl) (.slice (some ⟨g7, 0, none⟩) len k7) (.slice (some ⟨W7.heap.size, 0, none⟩) 1 1) (by rfl) (by rfl) (App2 wc.heap.size (.slice (some ⟨g7, 0, none⟩) len k7) (b n) e0 W8) (HBa.out _) ?_; intro v9 W9 hR; have hk9 : KB wc W9 := HKa8.out.grown hR.grown HG7.out; have HE9 := Lib.hid (HEND.out W9 v9 hk9 hR.row); have hq9 : KQ P (.int .i64 (n : Int)) wc W9 := KQ.of_kb hk9 HN0.out; obtain ⟨g9, k9, rfl⟩ := hR.is; obtain ⟨_, c9, f9⟩ := HE9.out; clear hR))
              | ((refine step_append_run (by rfl) _ _ _ (by rfl) (.slice (some ⟨g7, 0, none⟩) len k7) (.slice (some ⟨wc.heap.size + 1, 0, none⟩) 1 1) (by rfl) (by rfl) (App2 wc.heap.size (.slice (some ⟨g7, 0, none⟩) len k7) (b n) e0 W7) (HBb.out _) ?_; intro v9 W9 hR; have hk9 : KB wc W9 := HK7.out.grown hR.grown HG7.out; have HE9 := Lib.hid (HEND.out W9 v9 hk9 hR.row); have hq9 : KQ P (.int .i64 (n : Int)) wc W9 := KQ.of_kb hk9 HN0.out; obtain ⟨g9, k9, rfl⟩ := hR.is; obtain ⟨_, c9, f9⟩ := HE9.out; clear hR))
              | ((refine step_append_run (by rfl) _ _ _ (by rfl) (.slice (some ⟨g7, 0, none⟩) len k7) (.slice (some ⟨wc.heap.size, 0, none⟩) 1 1) (by rfl) (by rfl) (App2 wc.heap.size (.slice (some ⟨g7, 0, none⟩) len k7) (b n) e0 W7) (HBc.out _) ?_; intro v9 W9 hR; have hk9 : KB wc W9 := HK7.out.grown hR.grown HG7.out; have HE9 := Lib.hid (HEND.out W9 v9 hk9 hR.row); have hq9 : KQ P (.int .i64 (n : Int)) wc W9 := KQ.of_kb hk9 HN0.out; obtain ⟨g9, k9, rfl⟩ := hR.is; obtain ⟨_, c9, f9⟩ := HE9.out; clear hR))
              | fail)
            all_goals
              go_wp2
              go_ret2
              rw [HD3.out]
              exact ⟨rfl, HE9.out.1⟩
        · have HD3 : Hid (D = (emp, re, b)) := Lib.hid (by rw [HD2.out, if_neg h0])
          have hre0 : ((re : Int) != 0) = true := by rw [bne_iff_ne]; exact h0
          clear HD2 h0
          go_enter Tryz.func28, Tryz.ntmps28
          go_wp2_with fail
          refine HSY.out.mono ?_
          rintro e w1 ⟨B, rfl, hsy, hb1⟩
          have HDE := Lib.hid (rdeed_any w.heap.size B (saysR (allB b) []) line hs w1 hsy (by
            have h9 := saysR_len (allB b) []
            simp only [List.length_nil] at h9
            have := HLA.out
            omega) (saysR_sum _ (by have := HLA.out; omega)))
          unfold DeedPost at HDE
          rw [HR.out] at HDE
          go_wp2_with fail
          refine HDE.out.mono ?_
          rintro e w2 ⟨rfl, hs2, ht2⟩
          have HB2 := Lib.hid (hb1.trans (ht2.below (by obtain ⟨_, _, _, h8⟩ := hsy; exact h8.low) hb1.size))
          clear hsy hb1 hs2 ht2
          have HR2 := Lib.hid (HRF.out.below HB2.out)
          have c0 := heap_cell (j := 0) HR2.out.1 rfl
          have c1 := HR2.out.cell hn
          obtain ⟨a, cap, hv⟩ := (HR2.out.2 n hn).shape
          rw [hv, ← HLN.out] at c1
          clear hv
          go_wp2
          go_quiet (fail)
          have HB3 := Lib.hid (belowD HB2.out nq)
          go_wp2_with fail
          refine (HCO.out _ (HRF.out.below HB3.out)).mono ?_
          rintro e w4 ⟨rfl, rfl⟩
          go_wp2
          go_ret2
          rw [HD3.out]
          exact ⟨rfl, rdo_keep HRF.out HB3.out⟩
end Go.Proofs.YtdfkaijeppdhaaaGreatDoor

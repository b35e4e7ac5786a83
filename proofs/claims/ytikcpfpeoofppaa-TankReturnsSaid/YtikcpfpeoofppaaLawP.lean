/- Texts of this claim, laid together: Rn, Row4, LawP. -/
import Derived.Test.YtikcpfpeoofppaaTk
import Derived.Test.YtikcpfpeoofppaaLawO
import Derived.Test.YtikcpfpeoofppaaBt
import Derived.Test.YtikcpfpeoofppaaLawE
import Derived.Test.YtikcpfpeoofppaaRow2
import Derived.OpenShut
import Derived.Test.YtikcpfpeoofppaaLawF

/- Plain law of TankReturns, and the contract of before. -/
namespace Go.Proofs.Ytikcpfpeoofppaa
open Go.RowKit

/-- The deeds of Between lead to the other levels, and are at most 200. -/
theorem between_leads {t l m : List Int} (h : btE t l m = 0) : runE t l (btL t l m) = 0 ∧ runV t l (btL t l m) = m := by
  have ha : askE t [l, m] = 0 := by
    unfold btE at h
    by_cases ha : askE t [l, m] = 0
    · exact ha
    · rw [if_neg ha] at h; exact absurd h ha
  obtain ⟨ht, hl, hm⟩ := askE_pair ha
  have hw : (way t l (eqG m)).isSome = true := by
    unfold btE at h
    rw [if_pos ha] at h
    cases hw : (way t l (eqG m)).isSome with
    | true => rfl
    | false => rw [hw] at h; simp at h
  obtain ⟨ds, hds⟩ := Option.isSome_iff_exists.1 hw
  have hb : btL t l m = ds := by unfold btL; rw [if_pos ha, hds]; rfl
  obtain ⟨h1, h2⟩ := way_some ht hl hds
  have h3 : ds.foldl (doneL t) l = m := by unfold eqG at h1; exact of_decide_eq_true h1
  obtain ⟨qs, k1, k2, k3⟩ := near ht hl h2
  have h4 := way_least ht hl hds k1 (by unfold eqG; rw [k3, h3]; exact decide_eq_true rfl)
  have hd : areD t.length ds = true := (areD_iff _ _).2 ⟨by omega, h2⟩
  have hone : askE t [l] = 0 := by
    unfold askE
    rw [(tvl_iff t).2 ht]
    simp only [List.all_cons, List.all_nil, Bool.and_true, if_true]
    rw [(levB_iff t l).2 hl, if_pos rfl]
  have hr : runE t l ds = 0 := by unfold runE; rw [if_pos hone, hd, if_pos rfl]
  rw [hb]
  exact ⟨hr, by unfold runV; rw [if_pos hr]; exact h3⟩
theorem empties (t : List Int) : ∀ (k : Nat), k ≤ t.length → ∀ l, Lev t l → Lev t (((List.range k).map fun (i : Nat) => ((2 : Int), (0 : Int), (i : Int))).foldl (doneL t) l) ∧ ∀ j, (((List.range k).map fun (i : Nat) => ((2 : Int), (0 : Int), (i : Int))).foldl (doneL t) l).getD j 0 = if j < k then 0 else l.getD j 0
  | 0, _, l, hl => ⟨hl, fun j => by simp⟩
  | k + 1, hk, l, hl => by
    obtain ⟨h1, h2⟩ := empties t k (by omega) l hl
    rw [List.range_succ, List.map_append, List.foldl_append]
    simp only [List.map_cons, List.map_nil, List.foldl_cons, List.foldl_nil]
    generalize ((List.range k).map fun (i : Nat) => ((2 : Int), (0 : Int), (i : Int))).foldl (doneL t) l = m at *
    have e : doneL t m ((2 : Int), (0 : Int), (k : Int)) = m.set k 0 := by unfold doneL; simp
    rw [e]
    refine ⟨⟨by rw [List.length_set]; exact h1.1, fun j hj => ?_⟩, fun j => ?_⟩
    · rw [getD_setI (by rw [h1.1]; omega)]
      split
      · rename_i h; subst h; have := hl.2 k hj; omega
      · exact h1.2 j hj
    · rw [getD_setI (by rw [h1.1]; omega), h2]
      by_cases h : k = j
      · subst h; simp
      · rw [if_neg h]
        by_cases h3 : j < k
        · rw [if_pos h3, if_pos (by omega)]
        · rw [if_neg h3, if_neg (by omega)]
/-- From levels back to empty tanks. -/
theorem back_zero {t l : List Int} (ht : Tvl t) (hl : Lev t l) : btE t l (zerosL t) = 0 ∧ (btL t l (zerosL t)).length ≤ t.length := by
  have ha : askE t [l, zerosL t] = 0 := by
    unfold askE
    rw [(tvl_iff t).2 ht]
    simp only [List.all_cons, List.all_nil, Bool.and_true, if_true]
    rw [(levB_iff t l).2 hl, (levB_iff t (zerosL t)).2 (zeros_lev ht)]
    rfl
  obtain ⟨h1, h2⟩ := empties t t.length (Nat.le_refl _) l hl
  have he : ((List.range t.length).map fun (i : Nat) => ((2 : Int), (0 : Int), (i : Int))).foldl (doneL t) l = zerosL t := by
    refine lev_ext h1 (zeros_lev ht) fun j hj => ?_
    rw [h2, if_pos hj, zeros_getD]
  have hd : ∀ d ∈ ((List.range t.length).map fun (i : Nat) => ((2 : Int), (0 : Int), (i : Int))), IsD t.length d := fun d hd => by
    obtain ⟨i, hi, rfl⟩ := List.mem_map.1 hd
    have := List.mem_range.1 hi
    exact .inl ⟨.inr rfl, rfl, by simp only; omega, by simp only; omega⟩
  have hg : eqG (zerosL t) (((List.range t.length).map fun (i : Nat) => ((2 : Int), (0 : Int), (i : Int))).foldl (doneL t) l) = true := by unfold eqG; rw [he]; exact decide_eq_true rfl
  cases hw : way t l (eqG (zerosL t)) with
  | none => rw [way_none ht hl hw hd] at hg; cases hg
  | some ds =>
    have h3 := way_least ht hl hw hd hg
    rw [List.length_map, List.length_range] at h3
    refine ⟨by unfold btE; rw [if_pos ha, hw]; rfl, ?_⟩
    unfold btL
    rw [if_pos ha, hw]
    exact h3
/-- What All tells. -/
theorem out_nums (t : List Int) (es : List Ent) : ∀ k, (outN t es k).Pairwise (fun a b => numR t a < numR t b) ∧ ∀ l ∈ outN t es k, numR t l < k ∧ ∃ e ∈ es, e.1 = l
  | 0 => ⟨by simp [outN], fun l h => by simp [outN] at h⟩
  | k + 1 => by
    obtain ⟨h1, h2⟩ := out_nums t es k
    cases ha : atN t es k with
    | none =>
      rw [outN_none ha]
      exact ⟨h1, fun l hl => ⟨by have := (h2 l hl).1; omega, (h2 l hl).2⟩⟩
    | some m =>
      obtain ⟨g1, g2⟩ := atN_some ha
      rw [outN_some ha]
      refine ⟨List.pairwise_append.2 ⟨h1, List.pairwise_singleton _ _, fun a ha b hb => ?_⟩, fun l hl => ?_⟩
      · have := (h2 a ha).1
        have hb2 : b = m := by simpa using hb
        rw [hb2]; omega
      · rcases List.mem_append.1 hl with hl | hl
        · exact ⟨by have := (h2 l hl).1; omega, (h2 l hl).2⟩
        · have hl2 : l = m := by simpa using hl
          rw [hl2]; exact ⟨by omega, g1⟩
theorem out_has {t l : List Int} {es : List Ent} (he : ∃ e ∈ es, e.1 = l) : ∀ k, numR t l < k → ∃ m, m ∈ outN t es k
  | k + 1, h => by
    cases ha : atN t es k with
    | some m => exact ⟨m, by rw [outN_some ha]; simp⟩
    | none =>
      rw [outN_none ha]
      by_cases e : numR t l = k
      · exfalso
        obtain ⟨x, hx, hx2⟩ := he
        unfold atN at ha
        rw [Option.map_eq_none_iff, List.find?_eq_none] at ha
        have := ha x hx
        rw [hx2, e] at this
        simp at this
      · exact out_has he k (by omega)
/-- What the law wants of All. -/
theorem all_facts {t : List Int} (ht : Tvl t) : 0 < (allL t).length ∧ (∀ l ∈ allL t, Lev t l ∧ backV t l = true ∧ askE t [l] = 0) ∧ ∀ i, i + 1 < (allL t).length → ∃ k, k < t.length ∧ (∀ j, j < k → ((allL t).getD i []).getD j 0 = ((allL t).getD (i + 1) []).getD j 0) ∧ ((allL t).getD i []).getD k 0 < ((allL t).getD (i + 1) []).getD k 0 := by
  have hz := zeros_lev ht
  have hal : allL t = outN t (full t (zerosL t)) (sizeR t) := by unfold allL; rw [(tvl_iff t).2 ht]; rfl
  obtain ⟨h1, h2⟩ := out_nums t (full t (zerosL t)) (sizeR t)
  rw [← hal] at h1 h2
  have hg := full_good ht hz
  have hlev : ∀ l ∈ allL t, Lev t l := fun l hl => by
    obtain ⟨_, e, he, rfl⟩ := h2 l hl
    exact hg.lev e he
  refine ⟨?_, fun l hl => ⟨hlev l hl, ?_, ?_⟩, fun i hi => ?_⟩
  · obtain ⟨r, hr⟩ := hg.head
    obtain ⟨m, hm⟩ := out_has (t := t) (l := zerosL t) (es := full t (zerosL t)) ⟨(zerosL t, [], []), by rw [hr]; simp, rfl⟩ (sizeR t) (numR_lt hz)
    rw [← hal] at hm
    exact List.length_pos_of_mem hm
  · obtain ⟨_, e, he, rfl⟩ := h2 l hl
    obtain ⟨k1, k2⟩ := hg.way _ e he rfl
    have ha : askE t [e.1] = 0 := by
      unfold askE
      rw [(tvl_iff t).2 ht]
      simp only [List.all_cons, List.all_nil, Bool.and_true, if_true]
      rw [(levB_iff t e.1).2 (hg.lev e he), if_pos rfl]
    unfold backV
    rw [if_pos ha]
    cases hw : way t (zerosL t) (eqG e.1) with
    | some ds => rfl
    | none =>
      have := way_none ht hz hw k2
      rw [k1] at this
      unfold eqG at this
      simp at this
  · unfold askE
    rw [(tvl_iff t).2 ht]
    simp only [List.all_cons, List.all_nil, Bool.and_true, if_true]
    rw [(levB_iff t l).2 (hlev l hl), if_pos rfl]
  · have ga : (allL t).getD i [] = (allL t)[i]'(by omega) := by rw [List.getD_eq_getElem?_getD, List.getElem?_eq_getElem (by omega)]; rfl
    have gb : (allL t).getD (i + 1) [] = (allL t)[i + 1]'hi := by rw [List.getD_eq_getElem?_getD, List.getElem?_eq_getElem hi]; rfl
    have hlt := List.pairwise_iff_getElem.1 h1 i (i + 1) (by omega) hi (by omega)
    rw [← ga, ← gb] at hlt
    have la := hlev _ (show (allL t).getD i [] ∈ allL t by rw [ga]; exact List.getElem_mem _)
    have lb := hlev _ (show (allL t).getD (i + 1) [] ∈ allL t by rw [gb]; exact List.getElem_mem _)
    rcases first_diff _ _ (la.1.trans lb.1.symm) with e | ⟨k, hk, he, hne⟩
    · rw [e] at hlt; omega
    · refine ⟨k, by rw [← la.1]; exact hk, he, ?_⟩
      by_cases hlt2 : ((allL t).getD (i + 1) []).getD k 0 < ((allL t).getD i []).getD k 0
      · have h3 := (cmpI_lt _ _ k (by rw [lb.1, ← la.1]; exact hk) (lb.1.trans la.1.symm) (fun j hj => (he j hj).symm) hlt2).1
        have h4 := (cmp_num lb la).1 (by omega)
        omega
      · omega

set_option maxRecDepth 100000 in
set_option maxHeartbeats 2000000 in
theorem before_any (v y : Value) (l m : List Int) (k : Nat) (hll : l.length = m.length) (hk : k < l.length) (he : ∀ j, j < k → l.getD j 0 = m.getD j 0) (hlt : l.getD k 0 < m.getD k 0) (w : World) (hv : IntsAt w v l) (hy : IntsAt w y m) :
    Calls Try.prog 52 #[v, y] w fun e w' => e = .returned (.bool true) ∧ Below w.heap.size w w' := by
  obtain ⟨ob, oo, oc, rfl, hoc⟩ := ints_cell hv (by omega)
  obtain ⟨pb, po, pc, rfl, hpc⟩ := ints_cell hy (by omega)
  have HOC := Lib.hid hoc
  have HPC := Lib.hid hpc
  have HE := Lib.hid he
  have HLT := Lib.hid hlt
  obtain ⟨n, hn⟩ : ∃ n, n = l.length := ⟨_, rfl⟩
  have HN := Lib.hid hn
  have HM := Lib.hid (hn.trans hll)
  rw [← hll, ← hn]
  rw [← hn] at hk
  have hn6 : n ≤ 9223372036854775807 := by obtain ⟨_, _, _, h9, _⟩ := hv; omega
  clear hoc hpc he hlt hll hv hy hn
  go_enter Try.func52, Try.ntmps52
  go_wp2
  go_loopw [5] (fun i wr => ∃ j : Nat, j ≤ k ∧ i = .int .i64 j ∧ Below w.heap.size w wr) (fun i _ => n - (intOf i).toNat)
  case atStart => exact ⟨0, Nat.zero_le _, rfl, Below.refl _ _⟩
  case round =>
    obtain ⟨j, hj, rfl, hbel⟩ := hrel
    have hjn : (j : Int) < (n : Int) := by omega
    have x1 := keep_cell hbel (HOC.out j (by rw [← HN.out]; omega))
    have x2 := keep_cell hbel (HPC.out j (by rw [← HM.out]; omega))
    have HB := Lib.hid hbel
    clear hbel
    by_cases hjk : j < k
    · rw [HE.out j hjk] at x1
      generalize m.getD j 0 = q at *
      go_wp2
      refine wp_region_quiet_lit (by kernel_rfl) (by kernel_rfl) ?_
      repeat (any_goals (first | go_big_quiet_step (fail) | quiet_step (fail)))
      all_goals (refine wpQuiet_nil ?_; intro _ hw'; obtain ⟨nq, hw''⟩ := hw'; subst hw'')
      all_goals go_wp2
      go_roundw
      case rel => exact ⟨j + 1, by omega, by go_num, below_drewN HB.out _⟩
      case measure => simp [intOf]; omega
    · obtain rfl : j = k := by omega
      have hlt := HLT.out
      generalize l.getD j 0 = p at *
      generalize m.getD j 0 = q at *
      have hne : ¬ p = q := by omega
      have hbn : (p != q) = true := by simpa using hne
      go_wp2
      refine wp_region_quiet_lit (by kernel_rfl) (by kernel_rfl) ?_
      repeat (any_goals (first | go_big_quiet_step (fail) | quiet_step (fail)))
      all_goals (refine wpQuiet_nil ?_; intro _ hw'; obtain ⟨nq, hw''⟩ := hw'; subst hw'')
      all_goals go_wp2
      refine wp_region_quiet_lit (by kernel_rfl) (by kernel_rfl) ?_
      repeat (any_goals (first | go_big_quiet_step (fail) | quiet_step (fail)))
      all_goals (refine wpQuiet_nil ?_; intro _ hw'; obtain ⟨nq, hw''⟩ := hw'; subst hw'')
      all_goals go_wp2
      all_goals go_ret
      all_goals exact ⟨rfl, below_drewN (below_drewN HB.out _) _⟩
end Go.Proofs.Ytikcpfpeoofppaa

/- An argument that is an array of two lists of ints, opened. -/
namespace Go.Proofs.Ytikcpfpeoofppaa
open Go.ChangeShapes Go.WideShapes Go.ChangeAt Go.RowKit Go.Deep

theorem ints_of_trod {H : Type} {enc : TypeId × Value → H} {W : World} {fuel : Nat} {v : Value} {cs : List Value} {x : DataW H × List MemPlace} (hf : DataW.trod enc Try.prog W 0 (fun _ => true) true fuel 29 cs = some x) (hv : cs = [v]) : ∃ l, IntsAt W v l := by
  subst hv
  rcases open_ints Try.underlying29 Try.underlying3 Try.cellsInt hf with ⟨hcs, hx⟩ | ⟨a, len, cap, zs, hcs, _, hl, hm, hz, hx, hcell, hwz⟩
  · simp at hcs
    subst hcs
    exact ⟨[], none, 0, rfl, by simp, fun h => by simp at h⟩
  · simp at hcs
    subst hcs
    simp only [if_true] at hz
    have hn : (zs.take len).length = len := by simp; omega
    have hm' := maxLen_le hm
    refine ⟨zs.take len, some a, cap, by rw [hn], by omega, fun h0 => ?_⟩
    rw [hn] at h0
    obtain ⟨b, off, spot⟩ := a
    have hspot : spot = none := by simpa [Addr.add] using World.cell?_spot (hcell 0 (by omega))
    subst hspot
    refine ⟨b, off, rfl, fun j hj => ?_⟩
    rw [hn] at hj
    rw [← add_plain, hcell j (by omega), getD_take hj]
set_option maxRecDepth 100000 in
theorem open_lists2 {H : Type} {enc : TypeId × Value → H} {W : World} {base : Nat} {v : Value} {d : DataW H} {p : List MemPlace} (ho : Value.okWide Try.prog W .any base 62 v)
    (h : DataW.Trod enc Try.prog W 0 (fun _ => true) true 62 v d p) : ∃ y z l m, v = .agg #[y, z] ∧ IntsAt W y l ∧ IntsAt W z m := by
  obtain ⟨fuel, hf⟩ := h
  simp only [Value.okWide, Try.underlying62] at ho
  obtain ⟨cs, rfl, h2, _⟩ := ho
  obtain ⟨xs, m, _, _, hl, hxl, hx⟩ := DataW.trod_array Try.underlying62 hf
  have hc1 : Try.prog.cellsOf 29 = 1 := by kernel_rfl
  have hc2 : Try.prog.cellsOf 62 = 2 := by kernel_rfl
  obtain ⟨l⟩ := cs
  rw [hc2] at hl
  have hl' : l.length = 2 := hl
  obtain ⟨y, z, rfl⟩ : ∃ y z, l = [y, z] := by
    match l, hl' with
    | [y, z], _ => exact ⟨y, z, rfl⟩
  have t0 := hx 0 (by omega)
  have t1 := hx 1 (by omega)
  rw [hc1, List.getElem?_eq_getElem (by omega)] at t0 t1
  obtain ⟨l0, i0⟩ := ints_of_trod (v := y) t0 (by simp [Value.cells])
  obtain ⟨l1, i1⟩ := ints_of_trod (v := z) t1 (by simp [Value.cells])
  exact ⟨y, z, l0, l1, rfl, i0, i1⟩
end Go.Proofs.Ytikcpfpeoofppaa

/- The law TankReturns: the walk. -/
namespace Go.Proofs.Ytikcpfpeoofppaa
open Go.RowKit

theorem u16_bounds {x : Int} (h : (Lit.int .u16 x).wf = true) : 0 ≤ x ∧ x ≤ 65535 := by
  simp [Lit.wf] at h
  have h1 : IntKind.u16.min = 0 := rfl
  have h2 : IntKind.u16.max = 65535 := rfl
  omega
/-- What holds of levels behind All. -/
theorem rows_at {w : World} {v : Value} {L : List (List Int)} (h : RowsAt w v L) (h0 : 0 < L.length) : ∃ b off cap, v = .slice (some ⟨b, off, none⟩) L.length cap ∧ ∀ i, i < L.length → ∃ x, w.cell? ⟨b, off + i, none⟩ = some x ∧ IntsAt w x (L.getD i []) := by
  obtain ⟨a, cap, rfl, _, h⟩ := h
  obtain ⟨b, off, rfl, hq⟩ := h h0
  exact ⟨b, off, cap, rfl, hq⟩
set_option maxRecDepth 100000 in
set_option maxHeartbeats 8000000 in
/-- Behind the first part: All, and what is told of it. -/
theorem TankReturns_of (HS : SortOk) (v y z : Value) (t l m : List Int) (x : Int) (w : World) (hv : IntsAt w v t) (hy : IntsAt w y l) (hz : IntsAt w z m) (hx : (Lit.int .u16 x).wf = true) :
    Calls Try.prog 16 #[v, .agg #[y, z], .int .u16 x] w fun e w' => e = .returned (.bool true) ∧ Below w.heap.size w w' := by
  obtain ⟨j0, hj0, hy0, hy1, hy2⟩ := info_parts Try.infoInt
  obtain ⟨w0, hw0⟩ : ∃ w0, w0 = w.alloc (.cells #[y, z] 62) := ⟨_, rfl⟩
  have hb0 : Below w.heap.size w w0 := by rw [hw0]; exact (Below.refl _ _).alloc (Nat.le_refl _) _
  have c0 : w0.cell? ⟨w.heap.size, 0, none⟩ = some y := by rw [hw0]; simp
  have c1 : w0.cell? ⟨w.heap.size, 1, none⟩ = some z := by rw [hw0]; simp
  have V := Lib.hid hv
  have Y := Lib.hid hy
  have Z := Lib.hid hz
  have HB0 := Lib.hid hb0
  have HW0 := Lib.hid hw0
  have L1 := Lib.hid (fun W (hW : Below w.heap.size w W) => long_any v y t l W (V.out.below hW) (Y.out.below hW))
  have L2 := Lib.hid (fun W (hW : Below w.heap.size w W) => long_any (.slice none 0 0) z [] m W (ints_nil W) (Z.out.below hW))
  have S := Lib.hid sane_any
  have RV := Lib.hid (fun W (hW : Below w.heap.size w W) => rValid_any v t W (V.out.below hW))
  have C1 := Lib.hid (fun W (hW : Below w.heap.size w W) => tBetween_any v y z t l m W (V.out.below hW) (Y.out.below hW) (Z.out.below hW))
  obtain ⟨a0, k0, rfl, hl0, _⟩ := hv
  obtain ⟨a1, k1, rfl, hl1, _⟩ := hy
  obtain ⟨a2, k2, rfl, hl2, _⟩ := hz
  clear hb0 hw0
  cases h1 : (decide (20 < t.length) || decide (20 < l.length)) with
  | true =>
    rw [h1] at L1
    clear h1
    go_enter Try.func16, Try.ntmps16
    go_wp2
    rw [← HW0.out]
    refine wp_region_quiet_lit (by kernel_rfl) (by kernel_rfl) ?_
    repeat (any_goals (first | go_big_quiet_step (fail) | quiet_step (fail)))
    all_goals (refine wpQuiet_nil ?_; intro _ hw'; obtain ⟨nq, hw''⟩ := hw'; subst hw'')
    all_goals go_wp2_with (first | (go_at_call 21; (with_reducible refine (L1.out _ (below_drewN HB0.out _)).mono ?_); rintro e w' ⟨rfl, rfl⟩) | (go_at_call 20; refine (S.out _).mono ?_; rintro e w' ⟨rfl, hbS⟩))
    all_goals go_ret
    all_goals exact ⟨rfl, (below_drewN HB0.out _).trans (hbS.mono (below_drewN HB0.out _).size)⟩
  | false =>
    rw [h1] at L1
    clear h1
    cases h2 : (decide (20 < ([] : List Int).length) || decide (20 < m.length)) with
    | true =>
      rw [h2] at L2
      clear h2
      go_enter Try.func16, Try.ntmps16
      go_wp2
      rw [← HW0.out]
      refine wp_region_quiet_lit (by kernel_rfl) (by kernel_rfl) ?_
      repeat (any_goals (first | go_big_quiet_step (fail) | quiet_step (fail)))
      all_goals (refine wpQuiet_nil ?_; intro _ hw'; obtain ⟨nq, hw''⟩ := hw'; subst hw'')
      all_goals go_wp2_with (first | (go_at_call 21; (with_reducible refine (L1.out _ (below_drewN HB0.out _)).mono ?_); rintro e w' ⟨rfl, rfl⟩) | (go_at_call 21; (with_reducible refine (L2.out _ (below_drewN HB0.out _)).mono ?_); rintro e w' ⟨rfl, rfl⟩) | (go_at_call 20; refine (S.out _).mono ?_; rintro e w' ⟨rfl, hbS⟩))
      all_goals go_ret
      all_goals exact ⟨rfl, (below_drewN HB0.out _).trans (hbS.mono (below_drewN HB0.out _).size)⟩
    | false =>
      rw [h2] at L2
      clear h2
      cases htv : tvl t with
      | false =>
        rw [htv] at RV
        clear htv
        go_enter Try.func16, Try.ntmps16
        go_wp2
        rw [← HW0.out]
        refine wp_region_quiet_lit (by kernel_rfl) (by kernel_rfl) ?_
        repeat (any_goals (first | go_big_quiet_step (fail) | quiet_step (fail)))
        all_goals (refine wpQuiet_nil ?_; intro _ hw'; obtain ⟨nq, hw''⟩ := hw'; subst hw'')
        all_goals go_wp2_with (first | (go_at_call 21; (with_reducible refine (L1.out _ (below_drewN HB0.out _)).mono ?_); rintro e w' ⟨rfl, rfl⟩) | (go_at_call 21; (with_reducible refine (L2.out _ (below_drewN HB0.out _)).mono ?_); rintro e w' ⟨rfl, rfl⟩) | (go_at_call 39; refine (RV.out _ (below_drewN HB0.out _)).mono ?_; rintro e w' ⟨rfl, rfl⟩) | (go_at_call 20; refine (S.out _).mono ?_; rintro e w' ⟨rfl, hbS⟩))
        all_goals go_ret
        all_goals exact ⟨rfl, (below_drewN HB0.out _).trans (hbS.mono (below_drewN HB0.out _).size)⟩
      | true =>
        rw [htv] at RV
        have ht := (tvl_iff t).1 htv
        have HT := Lib.hid ht
        have hbig : allE t = 0 := by unfold allE; rw [htv]; rfl
        have CA := Lib.hid (fun W (hW : Below w.heap.size w W) => tAll_of HS _ t W (V.out.below hW))
        unfold GivesAll at CA
        rw [hbig] at CA
        have AF := Lib.hid (all_facts ht)
        have LN := Lib.hid (allL_len t)
        have GA := Lib.hid (fun (w w' : World) (ov : Value) (h : RowsO w' w.heap.size ov (allL t)) => GivesAll.rows h)
        clear htv ht hbig HS
        generalize allL t = L at *
        go_enter Try.func16, Try.ntmps16
        go_wp2
        rw [← HW0.out]
        refine wp_region_quiet_lit (by kernel_rfl) (by kernel_rfl) ?_
        repeat (any_goals (first | go_big_quiet_step (fail) | quiet_step (fail)))
        all_goals (refine wpQuiet_nil ?_; intro _ hw'; obtain ⟨nq, hw''⟩ := hw'; subst hw'')
        all_goals go_wp2_with (first | (go_at_call 21; (with_reducible refine (L1.out _ (below_drewN HB0.out _)).mono ?_); rintro e w' ⟨rfl, rfl⟩) | (go_at_call 21; (with_reducible refine (L2.out _ (below_drewN HB0.out _)).mono ?_); rintro e w' ⟨rfl, rfl⟩) | (go_at_call 39; refine (RV.out _ (below_drewN HB0.out _)).mono ?_; rintro e w' ⟨rfl, rfl⟩))
        refine (C1.out _ (below_drewN HB0.out _)).mono ?_
        rintro e w1 ⟨ov1, rfl, hov1, hb1⟩
        have O1 := Lib.hid hov1
        have HB1 := Lib.hid ((below_drewN HB0.out _).trans (hb1.mono (below_drewN HB0.out _).size))
        obtain ⟨oa1, oc1, rfl, _⟩ := hov1
        clear hb1
        by_cases hbt : btE t l m = 0
        · have LD := between_leads hbt
          have A := Lib.hid (tAfter_any _ _ _ t l (btL t l m) w1 (V.out.below HB1.out) (Y.out.below HB1.out) O1.out)
          unfold GivesA at A
          rw [LD.1, LD.2] at A
          rw [hbt]
          clear LD hbt
          generalize btL t l m = dl at *
          go_wp2_with fail
          refine A.out.mono ?_
          rintro e w2 ⟨ov2, rfl, hov2, hb2⟩
          have HB2 := Lib.hid (HB1.out.trans (hb2.mono HB1.out.size))
          have SI := Lib.hid (sameInts_any ov2 _ m w2 hov2 (Z.out.below HB2.out))
          obtain ⟨oa2, oc2, rfl, _⟩ := hov2
          clear hb2 A
          go_wp2_with (first | (go_at_call 40; refine SI.out.mono ?_; rintro e w3 ⟨rfl, hb3⟩))
          have HB3 := Lib.hid (HB2.out.trans (hb3.mono HB2.out.size))
          clear hb3
          refine (CA.out _ HB3.out).mono ?_
          rintro e w4 ⟨ov4, rfl, ho4, hb4⟩
          have R4 := GA.out _ _ _ ho4
          have HB4 := Lib.hid (HB3.out.trans (hb4.mono HB3.out.size))
          obtain ⟨rb, ro, rc, rfl, hrow⟩ := rows_at R4 AF.out.1
          have HROW := Lib.hid hrow
          have hn0 := AF.out.1
          have hn1 := LN.out
          obtain ⟨n, hn⟩ : ∃ n, n = L.length := ⟨_, rfl⟩
          have HN := Lib.hid hn
          rw [← hn] at hn0 hn1 ⊢
          have hz0 : ¬ (n : Int) = 0 := by omega
          have hz1 : ((n : Int) == 0) = false := by simpa using hz0
          clear hrow R4 ho4 hb4 hn
          go_wp2_with fail
          go_loopw [15] (fun i wr => ∃ k : Nat, 1 ≤ k ∧ k ≤ n ∧ i = .int .i64 (k : Int) ∧ Below w4.heap.size w4 wr) (fun i _ => n - (intOf i).toNat)
          case atStart => exact ⟨1, Nat.le_refl _, hn0, rfl, Below.refl _ _⟩
          case round =>
            obtain ⟨k, hk1, hk, rfl, hbel⟩ := hrel
            have HBL := Lib.hid hbel
            by_cases hlt : k < n
            · obtain ⟨j, hj⟩ : ∃ j, j = k - 1 := ⟨_, rfl⟩
              have hkj : k = j + 1 := by omega
              have hlt2 : (k : Int) < (n : Int) := by omega
              have hlt3 : (j : Int) < (n : Int) := by omega
              have hlt4 : (0 : Int) ≤ (j : Int) := by omega
              have hlt5 : (0 : Int) ≤ (k : Int) := by omega
              have hw1 : IntKind.i64.wrap ((k : Int) - 1) = (j : Int) := by rw [show (k : Int) - 1 = (j : Int) by omega]; exact IntWalk.i64_in _ (by omega)
              obtain ⟨kk, hk3, he, hl3⟩ := AF.out.2.2 j (by rw [← HN.out]; omega)
              rw [← hkj] at he hl3
              obtain ⟨x1, c1, i1⟩ := HROW.out j (by rw [← HN.out]; omega)
              obtain ⟨x2, c2, i2⟩ := HROW.out k (by rw [← HN.out]; exact hlt)
              have la := (AF.out.2.1 _ (getD_mem (show j < L.length by rw [← HN.out]; omega) [])).1
              have lb := (AF.out.2.1 _ (getD_mem (show k < L.length by rw [← HN.out]; exact hlt) [])).1
              have BC := Lib.hid (fun W (hW : Below wr.heap.size wr W) => before_any x1 x2 _ _ kk (la.1.trans lb.1.symm) (by rw [la.1]; exact hk3) he hl3 W ((i1.below HBL.out).below hW) ((i2.below HBL.out).below hW))
              have d1 := keep_cell hbel c1
              have d2 := keep_cell hbel c2
              obtain ⟨e1, f1, rfl, _⟩ := i1
              obtain ⟨e2, f2, rfl, _⟩ := i2
              clear hj hkj
              clear hbel c1 c2 he hl3 la lb
              generalize L.getD j [] = la at *
              generalize L.getD k [] = lb at *
              go_wp2
              have r1 : ∀ W, KB wr W → W.cell? ⟨rb, ro + j, none⟩ = some (.slice e1 la.length f1) := fun W h => keep_cell h d1
              have r2 : ∀ W, KB wr W → W.cell? ⟨rb, ro + k, none⟩ = some (.slice e2 lb.length f2) := fun W h => keep_cell h d2
              clear d1 d2
              go_region_held3 (fun W => KB wr W) (first | exact Below.refl _ _ | exact (Below.refl _ _).drew | assumption | (unfold KB at *; exact Below.drew (by assumption)) | fail) (first
                | (go_at_call 52; refine (BC.out _ (by first | exact Below.refl _ _ | exact (Below.refl _ _).drew | assumption)).mono ?_; rintro e w5 ⟨rfl, hb5⟩; have hk5 : KB wr w5 := Below.trans (by first | exact Below.refl _ _ | exact (Below.refl _ _).drew) hb5)
                | fail)
              all_goals go_wp2
              all_goals go_roundw
              case rel => exact ⟨k + 1, by omega, by omega, by go_num, Below.trans HBL.out (Below.mono hk5 HBL.out.size)⟩
              case measure => simp [intOf]; omega
            · have e : k = n := by omega
              have HBE := Lib.hid (HB4.out.trans (HBL.out.mono HB4.out.size))
              obtain ⟨q, hq⟩ : ∃ q : Nat, q = (x % (n : Int)).toNat := ⟨_, rfl⟩
              have hx2 := u16_bounds hx
              have hm0 : 0 ≤ x % (n : Int) := Int.emod_nonneg _ (by omega)
              have hm1 : x % (n : Int) < (n : Int) := Int.emod_lt_of_pos _ (by omega)
              have hqn : q < n := by omega
              have hqi : (q : Int) < (n : Int) := by omega
              have hq0 : (0 : Int) ≤ (q : Int) := by omega
              have hmod : x.tmod (n : Int) = (q : Int) := by rw [Int.tmod_eq_emod_of_nonneg hx2.1]; omega
              have hwx : IntKind.i64.wrap x = x := IntWalk.i64_in _ (by omega)
              have hnn : ¬ (n : Int) = 0 := by omega
              obtain ⟨x3, c3, i3⟩ := HROW.out q (by rw [← HN.out]; exact hqn)
              obtain ⟨l3, b3, a3⟩ := AF.out.2.1 _ (getD_mem (show q < L.length by rw [← HN.out]; exact hqn) [])
              have BZ := Lib.hid (back_zero HT.out l3)
              have BK := Lib.hid (tBack_any _ x3 t (L.getD q []) wr (V.out.below HBE.out) (i3.below HBL.out))
              rw [b3, a3] at BK
              have I3 := Lib.hid (i3.below HBL.out)
              have d3 := keep_cell hbel c3
              obtain ⟨e3, f3, rfl, _⟩ := i3
              clear hq hm0 hm1 hx2 e l3 b3 a3 c3 hbel
              generalize L.getD q [] = lv at *
              go_wp2_with fail
              refine BK.out.mono ?_
              rintro e w5 ⟨rfl, hb5⟩
              have HB5 := Lib.hid (HBE.out.trans (hb5.mono HBE.out.size))
              have I5 := Lib.hid (I3.out.below hb5)
              clear hb5 BK I3
              go_wp2_with (at_make; refine wpList_make_full _ rfl _ _ 29 rfl w5.heap.size 3 j0 (.int .i64 0) 1 Try.underlying29 hj0 hy0 hy1 .i64 .i64 _ _ t.length rfl rfl rfl rfl (by rw [hy2]; have := HT.out.hi; omega) (by unfold maxLen; have := HT.out.hi; omega) (Nat.le_refl _) ?_; intro w6 hown6 hgrow6)
              have hb6 : Below w5.heap.size w5 w6 := (Below.refl _ _).grown hgrow6 (Nat.le_refl _) (fun k e => by cases e)
              have HB6 := Lib.hid (HB5.out.trans (hb6.mono HB5.out.size))
              have hz6 : IntsAt w6 (.slice (some ⟨w5.heap.size, 0, none⟩) t.length t.length) (zerosL t) := by
                have hzl : (zerosL t).length = t.length := by simp [zerosL]
                rw [made_zeros] at hown6
                rw [← hzl] at hown6 ⊢
                exact own_ints hown6 (by rw [hzl]; have := HT.out.hi; omega)
              have BT := Lib.hid (tBetween_any _ _ _ t lv (zerosL t) w6 (V.out.below HB6.out) (I5.out.below hb6) hz6)
              have hlenm := BZ.out.2
              rw [BZ.out.1] at BT
              clear hown6 hgrow6 hb6 hz6 I5 BZ
              generalize btL t lv (zerosL t) = dm at *
              have hlenm2 : (dm.length : Int) ≤ (t.length : Int) := by omega
              refine BT.out.mono ?_
              rintro e w7 ⟨ov7, rfl, hov7, hb7⟩
              obtain ⟨oa7, oc7, rfl, _⟩ := hov7
              have HB7 := Lib.hid (HB6.out.trans (hb7.mono HB6.out.size))
              clear hb7 BT
              go_wp2_with (first | (go_at_call 20; refine (S.out _).mono ?_; rintro e w' ⟨rfl, hbS⟩))
              go_ret
              exact ⟨rfl, HB7.out.trans (hbS.mono HB7.out.size)⟩
        · generalize btE t l m = be at *
          generalize btL t l m = dl at *
          go_wp2_with fail
          refine (CA.out _ HB1.out).mono ?_
          rintro e w4 ⟨ov4, rfl, ho4, hb4⟩
          have R4 := GA.out _ _ _ ho4
          have HB4 := Lib.hid (HB1.out.trans (hb4.mono HB1.out.size))
          obtain ⟨rb, ro, rc, rfl, hrow⟩ := rows_at R4 AF.out.1
          have HROW := Lib.hid hrow
          have hn0 := AF.out.1
          have hn1 := LN.out
          obtain ⟨n, hn⟩ : ∃ n, n = L.length := ⟨_, rfl⟩
          have HN := Lib.hid hn
          rw [← hn] at hn0 hn1 ⊢
          have hz0 : ¬ (n : Int) = 0 := by omega
          have hz1 : ((n : Int) == 0) = false := by simpa using hz0
          clear hrow R4 ho4 hb4 hn
          go_wp2_with fail
          go_loopw [15] (fun i wr => ∃ k : Nat, 1 ≤ k ∧ k ≤ n ∧ i = .int .i64 (k : Int) ∧ Below w4.heap.size w4 wr) (fun i _ => n - (intOf i).toNat)
          case atStart => exact ⟨1, Nat.le_refl _, hn0, rfl, Below.refl _ _⟩
          case round =>
            obtain ⟨k, hk1, hk, rfl, hbel⟩ := hrel
            have HBL := Lib.hid hbel
            by_cases hlt : k < n
            · obtain ⟨j, hj⟩ : ∃ j, j = k - 1 := ⟨_, rfl⟩
              have hkj : k = j + 1 := by omega
              have hlt2 : (k : Int) < (n : Int) := by omega
              have hlt3 : (j : Int) < (n : Int) := by omega
              have hlt4 : (0 : Int) ≤ (j : Int) := by omega
              have hlt5 : (0 : Int) ≤ (k : Int) := by omega
              have hw1 : IntKind.i64.wrap ((k : Int) - 1) = (j : Int) := by rw [show (k : Int) - 1 = (j : Int) by omega]; exact IntWalk.i64_in _ (by omega)
              obtain ⟨kk, hk3, he, hl3⟩ := AF.out.2.2 j (by rw [← HN.out]; omega)
              rw [← hkj] at he hl3
              obtain ⟨x1, c1, i1⟩ := HROW.out j (by rw [← HN.out]; omega)
              obtain ⟨x2, c2, i2⟩ := HROW.out k (by rw [← HN.out]; exact hlt)
              have la := (AF.out.2.1 _ (getD_mem (show j < L.length by rw [← HN.out]; omega) [])).1
              have lb := (AF.out.2.1 _ (getD_mem (show k < L.length by rw [← HN.out]; exact hlt) [])).1
              have BC := Lib.hid (fun W (hW : Below wr.heap.size wr W) => before_any x1 x2 _ _ kk (la.1.trans lb.1.symm) (by rw [la.1]; exact hk3) he hl3 W ((i1.below HBL.out).below hW) ((i2.below HBL.out).below hW))
              have d1 := keep_cell hbel c1
              have d2 := keep_cell hbel c2
              obtain ⟨e1, f1, rfl, _⟩ := i1
              obtain ⟨e2, f2, rfl, _⟩ := i2
              clear hj hkj
              clear hbel c1 c2 he hl3 la lb
              generalize L.getD j [] = la at *
              generalize L.getD k [] = lb at *
              go_wp2
              have r1 : ∀ W, KB wr W → W.cell? ⟨rb, ro + j, none⟩ = some (.slice e1 la.length f1) := fun W h => keep_cell h d1
              have r2 : ∀ W, KB wr W → W.cell? ⟨rb, ro + k, none⟩ = some (.slice e2 lb.length f2) := fun W h => keep_cell h d2
              clear d1 d2
              go_region_held3 (fun W => KB wr W) (first | exact Below.refl _ _ | exact (Below.refl _ _).drew | assumption | (unfold KB at *; exact Below.drew (by assumption)) | fail) (first
                | (go_at_call 52; refine (BC.out _ (by first | exact Below.refl _ _ | exact (Below.refl _ _).drew | assumption)).mono ?_; rintro e w5 ⟨rfl, hb5⟩; have hk5 : KB wr w5 := Below.trans (by first | exact Below.refl _ _ | exact (Below.refl _ _).drew) hb5)
                | fail)
              all_goals go_wp2
              all_goals go_roundw
              case rel => exact ⟨k + 1, by omega, by omega, by go_num, Below.trans HBL.out (Below.mono hk5 HBL.out.size)⟩
              case measure => simp [intOf]; omega
            · have e : k = n := by omega
              have HBE := Lib.hid (HB4.out.trans (HBL.out.mono HB4.out.size))
              obtain ⟨q, hq⟩ : ∃ q : Nat, q = (x % (n : Int)).toNat := ⟨_, rfl⟩
              have hx2 := u16_bounds hx
              have hm0 : 0 ≤ x % (n : Int) := Int.emod_nonneg _ (by omega)
              have hm1 : x % (n : Int) < (n : Int) := Int.emod_lt_of_pos _ (by omega)
              have hqn : q < n := by omega
              have hqi : (q : Int) < (n : Int) := by omega
              have hq0 : (0 : Int) ≤ (q : Int) := by omega
              have hmod : x.tmod (n : Int) = (q : Int) := by rw [Int.tmod_eq_emod_of_nonneg hx2.1]; omega
              have hwx : IntKind.i64.wrap x = x := IntWalk.i64_in _ (by omega)
              have hnn : ¬ (n : Int) = 0 := by omega
              obtain ⟨x3, c3, i3⟩ := HROW.out q (by rw [← HN.out]; exact hqn)
              obtain ⟨l3, b3, a3⟩ := AF.out.2.1 _ (getD_mem (show q < L.length by rw [← HN.out]; exact hqn) [])
              have BZ := Lib.hid (back_zero HT.out l3)
              have BK := Lib.hid (tBack_any _ x3 t (L.getD q []) wr (V.out.below HBE.out) (i3.below HBL.out))
              rw [b3, a3] at BK
              have I3 := Lib.hid (i3.below HBL.out)
              have d3 := keep_cell hbel c3
              obtain ⟨e3, f3, rfl, _⟩ := i3
              clear hq hm0 hm1 hx2 e l3 b3 a3 c3 hbel
              generalize L.getD q [] = lv at *
              go_wp2_with fail
              refine BK.out.mono ?_
              rintro e w5 ⟨rfl, hb5⟩
              have HB5 := Lib.hid (HBE.out.trans (hb5.mono HBE.out.size))
              have I5 := Lib.hid (I3.out.below hb5)
              clear hb5 BK I3
              go_wp2_with (at_make; refine wpList_make_full _ rfl _ _ 29 rfl w5.heap.size 3 j0 (.int .i64 0) 1 Try.underlying29 hj0 hy0 hy1 .i64 .i64 _ _ t.length rfl rfl rfl rfl (by rw [hy2]; have := HT.out.hi; omega) (by unfold maxLen; have := HT.out.hi; omega) (Nat.le_refl _) ?_; intro w6 hown6 hgrow6)
              have hb6 : Below w5.heap.size w5 w6 := (Below.refl _ _).grown hgrow6 (Nat.le_refl _) (fun k e => by cases e)
              have HB6 := Lib.hid (HB5.out.trans (hb6.mono HB5.out.size))
              have hz6 : IntsAt w6 (.slice (some ⟨w5.heap.size, 0, none⟩) t.length t.length) (zerosL t) := by
                have hzl : (zerosL t).length = t.length := by simp [zerosL]
                rw [made_zeros] at hown6
                rw [← hzl] at hown6 ⊢
                exact own_ints hown6 (by rw [hzl]; have := HT.out.hi; omega)
              have BT := Lib.hid (tBetween_any _ _ _ t lv (zerosL t) w6 (V.out.below HB6.out) (I5.out.below hb6) hz6)
              have hlenm := BZ.out.2
              rw [BZ.out.1] at BT
              clear hown6 hgrow6 hb6 hz6 I5 BZ
              generalize btL t lv (zerosL t) = dm at *
              have hlenm2 : (dm.length : Int) ≤ (t.length : Int) := by omega
              refine BT.out.mono ?_
              rintro e w7 ⟨ov7, rfl, hov7, hb7⟩
              obtain ⟨oa7, oc7, rfl, _⟩ := hov7
              have HB7 := Lib.hid (HB6.out.trans (hb7.mono HB6.out.size))
              clear hb7 BT
              go_wp2_with (first | (go_at_call 20; refine (S.out _).mono ?_; rintro e w' ⟨rfl, hbS⟩))
              go_ret
              exact ⟨rfl, HB7.out.trans (hbS.mono HB7.out.size)⟩
theorem TankReturns_walk (v y z : Value) (t l m : List Int) (x : Int) (w : World) (hv : IntsAt w v t) (hy : IntsAt w y l) (hz : IntsAt w z m) (hx : (Lit.int .u16 x).wf = true) :
    Calls Try.prog 16 #[v, .agg #[y, z], .int .u16 x] w fun e w' => e = .returned (.bool true) ∧ Below w.heap.size w w' :=
  TankReturns_of (sort_of Try.laysSlF6_f82 rfl) v y z t l m x w hv hy hz hx
end Go.Proofs.Ytikcpfpeoofppaa

/- Contract: slices.Replace of one element by two: a new row. -/
import Derived.Test.YtaakefjblldccaaRp
import Derived.Shelf.Spec.SlicesInsertGrow
namespace Go.Proofs.Ytaakefjblldccaa
open Go.RowKit Go.Shelf

set_option maxRecDepth 100000 in
set_option maxHeartbeats 4000000 in
/-- A new row. -/
theorem replace_grow {B g cap k m vb vc : Nat} {c : List Int} {x y : Int} {w : World} (HO : OwnIr B w g cap c) (hk : c.length = k + 1 + m) (hm : 0 < m) (h7 : c.length ≤ 7) (hroom : cap < c.length + 1) (hB : B ≤ w.heap.size) (hv : w.heap[vb]? = some (.cells #[.int .i64 x, .int .i64 y] 3 (0, 0))) (hne : vb ≠ g) :
    Calls Try.prog 88 #[.slice (some ⟨g, 0, none⟩) c.length cap, .int .i64 k, .int .i64 ((k : Int) + 1), .slice (some ⟨vb, 0, none⟩) 2 vc] w (GivesTwo B (twoC c k x y) w) := by
  have hlen := twoC_len (x := x) (y := y) (show k < c.length by omega)
  obtain ⟨cur, hg, hh, hnc, hcm, hcl, hct⟩ := row_parts HO.row
  rw [Nat.mul_one] at hcl hct
  have hD : ((c.drop (k + 1)).map (Value.int .i64)).length = m := by simp; omega
  have HDJ := Lib.hid (fun (j : Nat) (u : Value) (hj : ((c.drop (k + 1)).map (Value.int .i64))[j]? = some u) => show w.cell? ⟨g, k + 1 + j, none⟩ = some u from cells_at hh (by
    have h1 : (cur.take c.length)[k + 1 + j]? = some u := by
      rw [hct, List.getElem?_map]
      rw [List.getElem?_map, List.getElem?_drop] at hj
      exact hj
    rw [List.getElem?_take] at h1
    split at h1
    · exact h1
    · cases h1))
  have HCJ := Lib.hid (fun (j : Nat) (u : Value) (hj : ((c.map (Value.int .i64)).take k)[j]? = some u) => show w.cell? ⟨g, j, none⟩ = some u from cells_at hh (by
    rw [← hct, List.take_take, List.getElem?_take] at hj
    split at hj
    · exact hj
    · cases hj))
  have HX := Lib.hid (map_two c k x y)
  have HXL := Lib.hid (show ((c.map (Value.int .i64)).take k).length = k by simp; omega)
  have HCML := Lib.hid (show k ≤ (c.map (Value.int .i64)).length by simp; omega)
  have HD := Lib.hid hD
  have hD1 := Lib.hid (mapval_one (c.drop (k + 1)))
  obtain ⟨D, hDe⟩ : ∃ D, D = (c.drop (k + 1)).map (Value.int .i64) := ⟨_, rfl⟩
  rw [← hDe] at HX HDJ HD hD1
  have HG := Lib.hid hg
  have HL := Lib.hid hlen
  have HK := Lib.hid hk
  have HV := Lib.hid hv
  have hcapk : cap = k + 1 + m := by omega
  obtain ⟨j0, hj0, hy0, hy1, hy2⟩ := info_parts Try.infoInt
  obtain ⟨G, hGe⟩ : ∃ G, G = grownCap w.drew (k + 2 + m) cap 3 := ⟨_, rfl⟩
  have hGn : k + 2 + m ≤ G := by rw [hGe]; exact grownCap_ge w.drew _ _ _
  have hG63 : G ≤ maxLen := by rw [hGe]; exact grownCap_le_maxLen w.drew _ _ _ (by unfold maxLen; omega)
  have hrz : ∀ ty, (Builtin.append_ #[29, 3] ty #[.slice (some ⟨g, 0, none⟩) k cap, .int .i64 ((2 + m : Nat) : Int)]).run Try.prog w.drew =
      .ok (.slice (some ⟨w.heap.size, 0, none⟩) (k + 2 + m) G) (w.drew.drew.alloc (.cells (((c.map (Value.int .i64)).take k).toArray ++ Builtin.zeroCells (Value.int .i64 0).cells (2 + m) ++ Builtin.zeroCells (Value.int .i64 0).cells (G - (k + 2 + m))) 3)) := fun ty => by
    have h := Lib.run_append_grow_zeros w.drew 29 3 ty 3 j0 _ .i64 .i64 Try.underlying29 Try.underlying3 hj0 hy0 (some ⟨g, 0, none⟩) k cap ((c.map (Value.int .i64)).take k)
      (by
        rw [hy1]
        exact run_firstCells_some w.drew.drew 1 k ⟨g, 0, none⟩ k cap _ (by rw [HXL.out]; omega) (fun j u hj => by rw [Addr.add_lit, Nat.zero_add]; exact HCJ.out j u hj))
      (2 + m) (by omega) (by omega) (by omega) (by omega) (by rw [hy2]; omega) (by rw [hy2]; exact growslice_fits (by omega) (by omega))
    rw [show k + (2 + m) = k + 2 + m by omega, ← hGe] at h
    exact h
  obtain ⟨Z, hZ⟩ : ∃ Z : List Value, Z = (((c.map (Value.int .i64)).take k).toArray ++ Builtin.zeroCells (Value.int .i64 0).cells (2 + m) ++ Builtin.zeroCells (Value.int .i64 0).cells (G - (k + 2 + m))).toList := ⟨_, rfl⟩
  have hZl : Z.length = G := by rw [hZ]; simp [Builtin.zeroCells, Value.cells]; omega
  have hZt : Z.take k = (c.map (Value.int .i64)).take k := by
    rw [hZ]
    simp only [Array.toList_append, List.append_assoc]
    exact List.take_left' HXL.out
  have SP := Lib.hid (splice_b (D := D) (V := [.int .i64 x, .int .i64 y]) (k := k) (m := m) hZt HCML.out (by rw [hZl]; exact hGn) HD.out rfl)
  rw [← HX.out] at SP
  have hrz2 : ∀ ty, (Builtin.append_ #[29, 3] ty #[.slice (some ⟨g, 0, none⟩) k cap, .int .i64 ((k : Int) + 2 + (m : Int) - (k : Int))]).run Try.prog w.drew =
      .ok (.slice (some ⟨w.heap.size, 0, none⟩) (k + 2 + m) G) (w.drew.drew.alloc (.cells Z.toArray 3)) := fun ty => by
    have h := hrz ty
    rw [show ((2 + m : Nat) : Int) = (k : Int) + 2 + (m : Int) - (k : Int) by omega] at h
    rw [hZ, Array.toArray_toList]
    exact h
  obtain ⟨W1, hW1⟩ : ∃ W1, W1 = w.drew.drew.alloc (.cells Z.toArray 3) := ⟨_, rfl⟩
  have hg1 : W1.heap[w.heap.size]? = some (.cells Z.toArray 3 (0, 0)) := by rw [hW1]; exact World.alloc_heap_new w.drew.drew _
  have hb1 : Below w.heap.size w W1 := by rw [hW1]; exact (((Below.refl _ w).drew).drew).alloc (Nat.le_refl _) _
  rw [← hW1] at hrz2
  have HRZ := Lib.hid hrz2
  have HG1 := Lib.hid hg1
  have HB1 := Lib.hid hb1
  have HZL := Lib.hid hZl
  have HGN := Lib.hid hGn
  have HG63 := Lib.hid hG63
  have hgl : g < w.heap.size := (Array.getElem?_eq_some_iff.1 hh).1
  have hvl : vb < w.heap.size := (Array.getElem?_eq_some_iff.1 hv).1
  have HGL := Lib.hid hgl
  have HV1 := Lib.hid (show W1.heap[vb]? = some (.cells #[.int .i64 x, .int .i64 y] 3 (0, 0)) from (hb1.block vb hvl).trans hv)
  have HD1 := Lib.hid (fun j u hj => (hb1.cell (p := ⟨g, k + 1 + j, none⟩) hgl).trans (HDJ.out j u hj))
  have hne1 := Lib.hid (show vb ≠ w.heap.size by omega)
  have hne2 := Lib.hid (show g ≠ w.heap.size by omega)
  rw [hk] at h7 hroom ⊢
  have z3 : (cap : Int) < (k : Int) + 2 + (m : Int) := by omega
  clear hlen hct hh hcl hv hk hg hcm hD hDe hrz hrz2 hg1 hb1 hZ hZl hZt hW1 hGe hGn hG63 hnc hgl hvl hroom HO
  have a1 : (k : Int) ≤ (k : Int) + 1 := by omega
  have a2 : (k : Int) + 1 ≤ (cap : Int) := by omega
  have a3 : (0 : Int) ≤ (k : Int) + 1 := by omega
  have a4 : ((k : Int) + 1).toNat = k + 1 := by omega
  have a5 : (k : Int) ≤ (cap : Int) := by omega
  have b1 : ((k : Int) == (k : Int) + 1) = false := beq_eq_false_iff_ne.2 (by omega)
  have b2 : ((k : Int) + 1 == (k : Int) + 1 + (m : Int)) = false := beq_eq_false_iff_ne.2 (by omega)
  have a13 : ¬ cap = k + 1 := by omega
  have a14 : ¬ cap = k := by omega
  have a15 : ¬ G = k := by have h := HGN.out; omega
  have a16 : ¬ G = k + 2 := by have h := HGN.out; omega
  clear hcapk
  go_enter Try.func88, Try.ntmps88
  go_wp2_with fail
  have e1 : IntKind.i64.wrap ((k : Int) + 2) = (k : Int) + 2 := IntWalk.i64_in _ (by omega)
  have e2 : IntKind.i64.wrap ((k : Int) + 2 + (m : Int)) = (k : Int) + 2 + (m : Int) := IntWalk.i64_in _ (by omega)
  have a6 : (k : Int) + 1 ≤ (k : Int) + 1 + (m : Int) := by omega
  have a7 : k + 1 + m - (k + 1) = m := by omega
  refine wp_region_held_drew (S := fun _ => True) (by kernel_rfl) trivial (fun hHeld => ?_)
  refine takeY (i := 0) rfl (by kernel_rfl) (by kernel_rfl) (by kernel_rfl) (fun _ _ _ _ h => h) (by rfl) hHeld ?_
  apply Exists.intro
  apply And.intro
  · intro W3 hS3
    go_simp
    try rfl
  try simp only [Act.put, List.getElem_toArray, List.getElem_cons_zero, List.getElem_cons_succ, List.setIfInBounds_toArray, List.set_cons_zero, List.set_cons_succ]
  refine takeY (i := 1) rfl (by kernel_rfl) (by kernel_rfl) (by kernel_rfl) (fun _ _ _ _ h => h) (by rfl) hHeld ?_
  apply Exists.intro
  apply And.intro
  · intro W3 hS3
    go_simp
    try rfl
  try simp only [Act.put, List.getElem_toArray, List.getElem_cons_zero, List.getElem_cons_succ, List.setIfInBounds_toArray, List.set_cons_zero, List.set_cons_succ]
  refine takeY (i := 2) rfl (by kernel_rfl) (by kernel_rfl) (by kernel_rfl) (fun _ _ _ _ h => h) (by rfl) hHeld ?_
  apply Exists.intro
  apply And.intro
  · intro W3 hS3
    go_simp
    try rfl
  try simp only [Act.put, List.getElem_toArray, List.getElem_cons_zero, List.getElem_cons_succ, List.setIfInBounds_toArray, List.set_cons_zero, List.set_cons_succ]
  refine takeY (i := 3) rfl (by kernel_rfl) (by kernel_rfl) (by kernel_rfl) (fun _ _ _ _ h => h) (by rfl) hHeld ?_
  apply Exists.intro
  apply And.intro
  · intro W3 hS3
    go_simp
    try rfl
  try simp only [Act.put, List.getElem_toArray, List.getElem_cons_zero, List.getElem_cons_succ, List.setIfInBounds_toArray, List.set_cons_zero, List.set_cons_succ]
  refine takeY (i := 4) rfl (by kernel_rfl) (by kernel_rfl) (by kernel_rfl) (fun _ _ _ _ h => h) (by rfl) hHeld ?_
  apply Exists.intro
  apply And.intro
  · intro W3 hS3
    go_simp
    try rfl
  try simp only [Act.put, List.getElem_toArray, List.getElem_cons_zero, List.getElem_cons_succ, List.setIfInBounds_toArray, List.set_cons_zero, List.set_cons_succ]
  refine takeY (i := 5) rfl (by kernel_rfl) (by kernel_rfl) (by kernel_rfl) (fun _ _ _ _ h => h) (by rfl) hHeld ?_
  apply Exists.intro
  apply And.intro
  · intro W3 hS3
    go_simp
    try rfl
  try simp only [Act.put, List.getElem_toArray, List.getElem_cons_zero, List.getElem_cons_succ, List.setIfInBounds_toArray, List.set_cons_zero, List.set_cons_succ]
  refine takeY (i := 6) rfl (by kernel_rfl) (by kernel_rfl) (by kernel_rfl) (fun _ _ _ _ h => h) (by rfl) hHeld ?_
  apply Exists.intro
  apply And.intro
  · intro W3 hS3
    go_simp
    try rfl
  try simp only [Act.put, List.getElem_toArray, List.getElem_cons_zero, List.getElem_cons_succ, List.setIfInBounds_toArray, List.set_cons_zero, List.set_cons_succ]
  refine takeY (i := 7) rfl (by kernel_rfl) (by kernel_rfl) (by kernel_rfl) (fun _ _ _ _ h => h) (by rfl) hHeld ?_
  apply Exists.intro
  apply And.intro
  · intro W3 hS3
    go_simp
    try rfl
  try simp only [Act.put, List.getElem_toArray, List.getElem_cons_zero, List.getElem_cons_succ, List.setIfInBounds_toArray, List.set_cons_zero, List.set_cons_succ]
  refine takeY (i := 8) rfl (by kernel_rfl) (by kernel_rfl) (by kernel_rfl) (fun _ _ _ _ h => h) (by rfl) hHeld ?_
  apply Exists.intro
  apply And.intro
  · intro W3 hS3
    go_simp
    try rfl
  try simp only [Act.put, List.getElem_toArray, List.getElem_cons_zero, List.getElem_cons_succ, List.setIfInBounds_toArray, List.set_cons_zero, List.set_cons_succ]
  refine takeY (i := 9) rfl (by kernel_rfl) (by kernel_rfl) (by kernel_rfl) (fun _ _ _ _ h => h) (by rfl) hHeld ?_
  apply Exists.intro
  apply And.intro
  · intro W3 hS3
    go_simp
    try rfl
  try simp only [Act.put, List.getElem_toArray, List.getElem_cons_zero, List.getElem_cons_succ, List.setIfInBounds_toArray, List.set_cons_zero, List.set_cons_succ]
  refine takeY (i := 10) rfl (by kernel_rfl) (by kernel_rfl) (by kernel_rfl) (fun _ _ _ _ h => h) (by rfl) hHeld ?_
  apply Exists.intro
  apply And.intro
  · intro W3 hS3
    go_simp
    try rfl
  try simp only [Act.put, List.getElem_toArray, List.getElem_cons_zero, List.getElem_cons_succ, List.setIfInBounds_toArray, List.set_cons_zero, List.set_cons_succ]
  refine takeY (i := 11) rfl (by kernel_rfl) (by kernel_rfl) (by kernel_rfl) (fun _ _ _ _ h => h) (by rfl) hHeld ?_
  apply Exists.intro
  apply And.intro
  · intro W3 hS3
    go_simp
    try rfl
  try simp only [Act.put, List.getElem_toArray, List.getElem_cons_zero, List.getElem_cons_succ, List.setIfInBounds_toArray, List.set_cons_zero, List.set_cons_succ]
  refine takeY (i := 12) rfl (by kernel_rfl) (by kernel_rfl) (by kernel_rfl) (fun _ _ _ _ h => h) (by rfl) hHeld ?_
  apply Exists.intro
  apply And.intro
  · intro W3 hS3
    go_simp
    try rfl
  try simp only [Act.put, List.getElem_toArray, List.getElem_cons_zero, List.getElem_cons_succ, List.setIfInBounds_toArray, List.set_cons_zero, List.set_cons_succ]
  refine wpAnyH_done (by kernel_rfl) ?_ _
  go_wp2_with (first | (at_builtin; refine Lib.wpList_append_run _ rfl _ _ _ _ rfl _ _ rfl rfl _ _ (HRZ.out _) ?_) | refine wpList_copyG rfl _ _ 29 29 rfl 3 Try.underlying29 intSize (w.heap.size) (k) (k + 2 + m - k) (G - k) (⟨vb, 0, none⟩) (2) (vc) rfl rfl (Z) 3 (HG1.out) ([.int .i64 x, .int .i64 y]) ?cn ?cp ?cf ?c1 w.heap.size w ?cBel ?cg ?_)
  case cn => show 2 = min 2 _; omega
  case cp => exact two_at HV1.out
  case cf => have h := HGN.out; rw [HZL.out]; simp; omega
  case c1 => exact two_vals x y
  case cBel => exact HB1.out
  case cg => exact Nat.le_refl _
  intro w2 hg2 ho2 hb2
  have HD2 := Lib.hid (fun j u hj => (World.cell?_of_block (ho2.out g hne2.out)).trans (HD1.out j u hj))
  have HS2 := Lib.hid (show (splice Z k [Value.int .i64 x, Value.int .i64 y]).length = G by have h := HGN.out; rw [length_splice _ _ _ (by rw [HZL.out]; simp; omega)]; exact HZL.out)
  generalize splice Z k [Value.int .i64 x, Value.int .i64 y] = Z2 at *
  clear e2
  go_wp2_with fail
  have a8 : (0 : Int) ≤ (k : Int) + 2 := by omega
  have a9 : (k : Int) + 2 ≤ (k : Int) + 2 + (m : Int) := by omega
  have a10 : ((k : Int) + 2).toNat = k + 2 := by omega
  have a12 : k + 2 + m - (k + 2) = m := by omega
  have a17 : (k : Int) + 2 ≤ (G : Int) := by have h := HGN.out; omega
  have a18 : (k : Int) + 2 + (m : Int) ≤ (G : Int) := by have h := HGN.out; omega
  refine wp_region_held_drew (S := fun _ => True) (by kernel_rfl) trivial (fun hHeld => ?_)
  refine takeY (i := 0) rfl (by kernel_rfl) (by kernel_rfl) (by kernel_rfl) (fun _ _ _ _ h => h) (by rfl) hHeld ?_
  apply Exists.intro
  apply And.intro
  · intro W3 hS3
    go_simp
    try rfl
  try simp only [Act.put, List.getElem_toArray, List.getElem_cons_zero, List.getElem_cons_succ, List.setIfInBounds_toArray, List.set_cons_zero, List.set_cons_succ]
  refine takeY (i := 1) rfl (by kernel_rfl) (by kernel_rfl) (by kernel_rfl) (fun _ _ _ _ h => h) (by rfl) hHeld ?_
  apply Exists.intro
  apply And.intro
  · intro W3 hS3
    go_simp
    try rfl
  try simp only [Act.put, List.getElem_toArray, List.getElem_cons_zero, List.getElem_cons_succ, List.setIfInBounds_toArray, List.set_cons_zero, List.set_cons_succ]
  refine takeY (i := 2) rfl (by kernel_rfl) (by kernel_rfl) (by kernel_rfl) (fun _ _ _ _ h => h) (by rfl) hHeld ?_
  apply Exists.intro
  apply And.intro
  · intro W3 hS3
    go_simp
    try rfl
  try simp only [Act.put, List.getElem_toArray, List.getElem_cons_zero, List.getElem_cons_succ, List.setIfInBounds_toArray, List.set_cons_zero, List.set_cons_succ]
  refine takeY (i := 3) rfl (by kernel_rfl) (by kernel_rfl) (by kernel_rfl) (fun _ _ _ _ h => h) (by rfl) hHeld ?_
  apply Exists.intro
  apply And.intro
  · intro W3 hS3
    go_simp
    try rfl
  try simp only [Act.put, List.getElem_toArray, List.getElem_cons_zero, List.getElem_cons_succ, List.setIfInBounds_toArray, List.set_cons_zero, List.set_cons_succ]
  refine takeY (i := 4) rfl (by kernel_rfl) (by kernel_rfl) (by kernel_rfl) (fun _ _ _ _ h => h) (by rfl) hHeld ?_
  apply Exists.intro
  apply And.intro
  · intro W3 hS3
    go_simp
    try rfl
  try simp only [Act.put, List.getElem_toArray, List.getElem_cons_zero, List.getElem_cons_succ, List.setIfInBounds_toArray, List.set_cons_zero, List.set_cons_succ]
  refine takeY (i := 5) rfl (by kernel_rfl) (by kernel_rfl) (by kernel_rfl) (fun _ _ _ _ h => h) (by rfl) hHeld ?_
  apply Exists.intro
  apply And.intro
  · intro W3 hS3
    go_simp
    try rfl
  try simp only [Act.put, List.getElem_toArray, List.getElem_cons_zero, List.getElem_cons_succ, List.setIfInBounds_toArray, List.set_cons_zero, List.set_cons_succ]
  refine takeY (i := 6) rfl (by kernel_rfl) (by kernel_rfl) (by kernel_rfl) (fun _ _ _ _ h => h) (by rfl) hHeld ?_
  apply Exists.intro
  apply And.intro
  · intro W3 hS3
    go_simp
    try rfl
  try simp only [Act.put, List.getElem_toArray, List.getElem_cons_zero, List.getElem_cons_succ, List.setIfInBounds_toArray, List.set_cons_zero, List.set_cons_succ]
  refine takeY (i := 7) rfl (by kernel_rfl) (by kernel_rfl) (by kernel_rfl) (fun _ _ _ _ h => h) (by rfl) hHeld ?_
  apply Exists.intro
  apply And.intro
  · intro W3 hS3
    go_simp
    try rfl
  try simp only [Act.put, List.getElem_toArray, List.getElem_cons_zero, List.getElem_cons_succ, List.setIfInBounds_toArray, List.set_cons_zero, List.set_cons_succ]
  refine takeY (i := 8) rfl (by kernel_rfl) (by kernel_rfl) (by kernel_rfl) (fun _ _ _ _ h => h) (by rfl) hHeld ?_
  apply Exists.intro
  apply And.intro
  · intro W3 hS3
    go_simp
    try rfl
  try simp only [Act.put, List.getElem_toArray, List.getElem_cons_zero, List.getElem_cons_succ, List.setIfInBounds_toArray, List.set_cons_zero, List.set_cons_succ]
  refine wpAnyH_ready (rs := [9]) (by kernel_rfl) (by simp) ?_
  refine AllReadyH.cons rfl (fun K hK => ?_) AllReadyH.nil
  refine step_copyG rfl _ _ 29 29 rfl 3 Try.underlying29 intSize (w.heap.size) (k + 2) (m) (G - (k + 2)) (⟨g, k + 1, none⟩) (m) (cap - (k + 1)) (by simp [Act.eval, Act.put]) (by simp [Act.eval, Act.put]) (Z2) 3 (hg2.out) (D) ?dn ?dp ?df ?d1 w.heap.size w ?dBel ?dg ?_
  case dn => rw [HD.out]; simp [Nat.min_def]
  case dp => exact fun j u hj => by rw [Addr.add_lit]; exact HD2.out j u hj
  case df => have h := HGN.out; rw [HD.out, HS2.out]; exact h
  case d1 => exact hD1.out
  case dBel => exact hb2.out.drew
  case dg => exact Nat.le_refl _
  intro w3 hg3 ho3 hb3
  have EL := Lib.hid (show (twoC c k x y).length = k + 2 + m by rw [HL.out, HK.out]; omega)
  have HS3 := Lib.hid (show (splice Z2 (k + 2) D).length = G by have h := HGN.out; rw [length_splice _ _ _ (by rw [HD.out, HS2.out]; exact h)]; exact HS2.out)
  refine hK.out _ _ trivial (fun hHeld => ?_)
  clear hK K a6 a7 e1
  try simp only [Act.put, List.getElem_toArray, List.getElem_cons_zero, List.getElem_cons_succ, List.setIfInBounds_toArray, List.set_cons_zero, List.set_cons_succ]
  refine wpAnyH_done (by kernel_rfl) ?_ _
  go_wp2
  go_ret
  refine ⟨w.heap.size, G, by rw [EL.out]; rfl, ⟨⟨by simp, .inr ⟨w.heap.size, G, (splice Z2 (k + 2) D).toArray, rfl, hB, hg3.out, by rw [EL.out]; exact HGN.out, HG63.out, by simpa using HS3.out, by rw [EL.out, Nat.mul_one]; exact SP.out⟩⟩, hB⟩, hb3.out.mono hB⟩

end Go.Proofs.Ytaakefjblldccaa

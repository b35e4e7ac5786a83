/- Contracts: slices.Grow at nil, slices.Clone, slices.Concat of two tides, and Sum of the program. -/
import Derived.Test.YtflhpnhehaokpaaM
import Derived.Test.YtflhpnhehaokpaaN
import Derived.Lib.AppendZeros
import Derived.Deep.Slices
namespace Go.Proofs.Ytflhpnhehaokpaa
open Go.RowKit

set_option maxHeartbeats 400000 in
theorem grow_any (n : Nat) (w : World) (hn1 : 1 ≤ n) (hn2 : n ≤ 1000) :
    Calls Try.prog 93 #[.slice none 0 0, .int .i64 n] w fun e w' => ∃ cap, e = .returned (.slice (some ⟨w.heap.size, 0, none⟩) 0 cap) ∧ w'.ownsRow w.heap.size 34 1 (.slice (some ⟨w.heap.size, 0, none⟩) 0 cap) 0 [] ∧ Below w.heap.size w w' := by
  obtain ⟨i0, hi0, hz0, hz1, hz2⟩ := info_parts Try.infoInts
  have happ := Lib.run_append_nil_zeros (P := Try.prog) w 22 3 22 34 i0 (.slice none 0 0) .i64 .i64 Try.underlying22 Try.underlying3 hi0 hz0 n (by omega) (by omega) (by omega) (by rw [hz2]; omega)
  have hcap1 := grownCap_ge w n 0 34
  have hcap2 := grownCap_le_maxLen w n 0 34 (by unfold maxLen; omega)
  generalize grownCap w n 0 34 = cap at *
  generalize hZ : (Builtin.zeroCells (Value.slice none 0 0).cells n ++ Builtin.zeroCells (Value.slice none 0 0).cells (cap - n)) = Z at happ
  have hZs : Z.size = cap := by rw [← hZ]; simp [size_zeroCells, Value.cells]; omega
  have HZ := Lib.hid hZs
  have HA := Lib.hid happ
  clear hZ hZs happ
  unfold maxLen at hcap2
  go_enter Try.func93, Try.ntmps93
  go_wp2_with (at_builtin; refine Lib.wpList_append_run _ rfl _ _ _ _ rfl _ _ rfl rfl _ _ HA.out ?_)
  go_ret
  exact ⟨cap, rfl, (World.ownsRow_made w Z cap (Nat.le_refl _) (by unfold maxLen; omega) (by rw [HZ.out]; omega)).drew, ((Below.refl _ w).alloc (Nat.le_refl _) _).drew⟩

theorem add_plain2 (b o i : Nat) : (⟨b, o, none⟩ : Addr).add i = ⟨b, o + i, none⟩ := by unfold Addr.add; split <;> simp_all

set_option maxHeartbeats 400000 in
theorem clone_any (v : Value) (l : List Int) (w : World) (hv : IntsAt w v l) (h0 : 0 < l.length) (h1 : l.length ≤ 1000) :
    Calls Try.prog 81 #[v] w (GivesO l w) := by
  obtain ⟨i0, hi0, hz0, hz1, hz2⟩ := info_parts Try.infoInt
  obtain ⟨b, off, cap, rfl, hc⟩ := ints_cell hv h0
  have hnil := fun (w : World) => Lib.run_eql_slice_nil (P := Try.prog) w 34 3 (some ⟨b, off, none⟩) l.length cap 0 0 Try.underlying34
  have hcs : Hid (∀ j u, (l.map (Value.int .i64))[j]? = some u → (w.alloc (.cells #[] 3)).cell? ((⟨b, off, none⟩ : Addr).add j) = some u) := by
    intro j u hu
    rw [List.getElem?_map, Option.map_eq_some_iff] at hu
    obtain ⟨y, hy, rfl⟩ := hu
    obtain ⟨hj, rfl⟩ := List.getElem?_eq_some_iff.1 hy
    have := keep_cell ((Below.refl _ w).alloc (Nat.le_refl _) (.cells #[] 3)) (hc j hj)
    rw [List.getD_eq_getElem?_getD, List.getElem?_eq_getElem hj] at this
    rw [show ((⟨b, off, none⟩ : Addr).add j) = ⟨b, off + j, none⟩ from add_plain2 b off j]
    exact this.trans (by simp)
  have hown := World.ownsRow_made (base := w.heap.size) (e := 3) (size := 1) w #[] 0 (Nat.le_refl _) (by decide) rfl
  clear hc
  go_enter Try.func81, Try.ntmps81
  go_wp2_with (at_builtin; refine wpList_append_own _ rfl _ _ 34 rfl w.heap.size 3 i0 (.int .i64 0) 1 8 Try.underlying34 hi0 hz0 hz1 hz2 rfl (by decide) _ _ _ rfl hown ⟨b, off, none⟩ l.length cap (l.map (Value.int .i64)) rfl (by simp) hcs.out (by intro u hu; obtain ⟨y, _, rfl⟩ := List.mem_map.1 hu; rfl) ?c3 ?c4 ?c5 ?_)
  case c3 => unfold maxLen; omega
  case c4 => omega
  case c5 => simp
  · intro v' w1 hown' hgrow _
    have R := ((Below.refl _ w).alloc (Nat.le_refl _) _).grown hgrow (by simp) (fun k e => by simp [Value.ownBlock] at e; omega)
    go_wp2
    go_ret
    exact ⟨_, rfl, hown', R⟩

/-- The values in the cells of a tide's row of rows. -/
theorem rows_vals {w : World} {v : Value} {t : List (List Int)} (h : RowsAt w v t) (h0 : 0 < t.length) :
    ∃ (b off cap : Nat) (vs : List Value), v = .slice (some ⟨b, off, none⟩) t.length cap ∧ vs.length = t.length ∧
      (∀ j u, vs[j]? = some u → w.cell? ⟨b, off + j, none⟩ = some u) ∧ (∀ u ∈ vs, u.oneCell' = true) ∧ ∀ i, i < t.length → IntsAt w (vs.getD i undef) (t.getD i []) := by
  obtain ⟨a, cap, rfl, _, hq⟩ := h
  obtain ⟨b, off, rfl, hc⟩ := hq h0
  have hc' : ∀ i, i < t.length → ∃ x : Option Addr × Nat, w.cell? ⟨b, off + i, none⟩ = some (.slice x.1 (t.getD i []).length x.2) ∧ IntsAt w (.slice x.1 (t.getD i []).length x.2) (t.getD i []) := fun i hi => by
    obtain ⟨x, h1, h2⟩ := hc i hi
    obtain ⟨a', c', rfl, _⟩ := id h2
    exact ⟨(a', c'), h1, h2⟩
  obtain ⟨f, hf⟩ := Go.Deep.choose_lt hc'
  refine ⟨b, off, cap, (List.range t.length).map fun i => .slice (f i).1 (t.getD i []).length (f i).2, rfl, by simp, fun j u hu => ?_, fun u hu => ?_, fun i hi => ?_⟩
  · rw [List.getElem?_map, Option.map_eq_some_iff] at hu
    obtain ⟨y, hy, rfl⟩ := hu
    obtain ⟨hj, rfl⟩ := List.getElem?_eq_some_iff.1 hy
    simp only [List.length_range] at hj
    rw [List.getElem_range]
    exact (hf j hj).1
  · obtain ⟨y, _, rfl⟩ := List.mem_map.1 hu
    rfl
  · have e : ((List.range t.length).map fun i => Value.slice (f i).1 (t.getD i []).length (f i).2).getD i undef = .slice (f i).1 (t.getD i []).length (f i).2 := by simp [List.getD_eq_getElem?_getD, hi]
    rw [e]
    exact (hf i hi).2

theorem getD_app_l {α : Type} (xs ys : List α) (d : α) {i : Nat} (h : i < xs.length) : (xs ++ ys).getD i d = xs.getD i d := by
  simp [List.getD_eq_getElem?_getD, List.getElem?_append_left h]
theorem getD_app_r {α : Type} (xs ys : List α) (d : α) (i : Nat) : (xs ++ ys).getD (xs.length + i) d = ys.getD i d := by
  rw [List.getD_eq_getElem?_getD, List.getD_eq_getElem?_getD, List.getElem?_append_right (by omega), Nat.add_sub_cancel_left]

theorem news_keep {w w1 : World} {b o : Nat} {vs : List Value} (h : ∀ j u, vs[j]? = some u → w.cell? ⟨b, o + j, none⟩ = some u) (hb : Below w.heap.size w w1) :
    ∀ j u, vs[j]? = some u → w1.cell? ((⟨b, o, none⟩ : Addr).add j) = some u := fun j u hu => by
  rw [add_plain2]
  exact keep_cell hb (h j u hu)

set_option maxHeartbeats 1000000 in
theorem concat_any (B : Nat) (vt vu : Value) (t u : List (List Int)) (w : World) (hv : RowsAt w vt t) (hx : RowsAt w vu u) (ht1 : 1 ≤ t.length) (hu1 : 1 ≤ u.length) (hl : t.length + u.length ≤ 8)
    (c0 : w.cell? ⟨B, 0, none⟩ = some vt) (c1 : w.cell? ⟨B, 1, none⟩ = some vu) :
    Calls Try.prog 80 #[.slice (some ⟨B, 0, none⟩) 2 2] w (GivesR (t ++ u) w) := by
  obtain ⟨i0, hi0, hz0, hz1, hz2⟩ := info_parts Try.infoInts
  obtain ⟨tb, to, tc, vs, rfl, hvl, hvc, hv1, hvi⟩ := rows_vals hv (by omega)
  obtain ⟨ub, uo, uc, xs, rfl, hxl, hxc, hx1, hxi⟩ := rows_vals hx (by omega)
  have VC := Lib.hid hvc
  have XC := Lib.hid hxc
  have VL := Lib.hid hvl
  have XL := Lib.hid hxl
  have VI := Lib.hid hvi
  have XI := Lib.hid hxi
  have V1 := Lib.hid hv1
  have X1 := Lib.hid hx1
  clear hvl hvc hv1 hvi hxl hxc hx1 hxi hv hx
  go_enter Try.func80, Try.ntmps80
  go_wp2
  refine wp_loop_rounds 3 ?_
  rw [rounds_succ]
  go_wp2
  rw [rounds_succ]
  go_wp2
  rw [rounds_succ]
  go_wp2_with (go_at_call 93; refine (grow_any (t.length + u.length) _ (by omega) (by omega)).mono ?_; rintro e w1 ⟨cap, rfl, hown, hb1⟩)
  have hsz := hb1.size
  have d0 := keep_cell hb1 c0
  have d1 := keep_cell hb1 c1
  have N1 := Lib.hid (news_keep VC.out hb1)
  refine wp_loop_rounds 3 ?_
  rw [rounds_succ]
  go_wp2_with (at_builtin; refine wpList_append_own _ rfl _ _ 22 rfl w.heap.size 34 i0 (.slice none 0 0) 1 24 Try.underlying22 hi0 hz0 hz1 hz2 rfl (by decide) _ _ _ rfl hown ⟨tb, to, none⟩ t.length tc vs rfl (by rw [VL.out]; omega) N1.out V1.out ?c3 ?c4 hsz ?_)
  case c3 => unfold maxLen; omega
  case c4 => omega
  intro v2 w2 hown2 hgrow2 _
  have hb2 : Below w.heap.size w w2 := hb1.grown hgrow2 hsz (fun k e => by simp [Value.ownBlock] at e; omega)
  have hsz2 := hb2.size
  have e0 := keep_cell hb2 c0
  have e1 := keep_cell hb2 c1
  have N2 := Lib.hid (news_keep XC.out hb2)
  obtain ⟨oa, oc, rfl, _⟩ := own_cells hown2
  clear hown hgrow2 d0 d1 hb1 hsz
  go_wp2
  rw [rounds_succ]
  go_wp2_with (at_builtin; refine wpList_append_own _ rfl _ _ 22 rfl w.heap.size 34 i0 (.slice none 0 0) 1 24 Try.underlying22 hi0 hz0 hz1 hz2 rfl (by decide) _ _ _ rfl hown2 ⟨ub, uo, none⟩ u.length uc xs rfl (by rw [XL.out]; omega) N2.out X1.out ?d3 ?d4 hsz2 ?_)
  case d3 => unfold maxLen; omega
  case d4 => omega
  intro v3 w3 hown3 hgrow3 _
  have hb3 : Below w.heap.size w w3 := hb2.grown hgrow3 hsz2 (fun k e => (hown2.lt k e).1)
  obtain ⟨pa, pc, rfl, _⟩ := own_cells hown3
  clear hown2 hgrow3 e0 e1 hb2 hsz2
  go_wp2
  rw [rounds_succ]
  go_wp2
  go_ret
  refine ⟨_, rfl, own_rows (e := 34) (base := w.heap.size) (xs := vs ++ xs) ?_ (by rw [List.length_append]; omega) (fun i hi => ?_), hb3⟩
  · rw [List.length_append]; exact hown3
  · rw [List.length_append] at hi
    by_cases h : i < t.length
    · rw [getD_app_l _ _ _ (by rw [VL.out]; exact h), getD_app_l _ _ _ h]
      exact (VI.out i h).below hb3
    · obtain ⟨j, rfl⟩ : ∃ j, i = t.length + j := ⟨i - t.length, by omega⟩
      rw [getD_app_r t u [] j]
      have e := getD_app_r vs xs undef j
      rw [VL.out] at e
      rw [e]
      exact (XI.out j (by omega)).below hb3

end Go.Proofs.Ytflhpnhehaokpaa

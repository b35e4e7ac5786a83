/- Lists of ratios that a call has made; comparing, adding and taking away ratios. -/
import Derived.Test.YtaakefjblldccaaK
import Derived.Test.YtaakefjblldccaaWat
import Derived.Test.YtaakefjblldccaaSV
namespace Go.Proofs.Ytaakefjblldccaa
open Go.RowKit

def ratC (x : Rat2) : List Value := [.int .i64 x.1, .int .i64 x.2]
def flatR (l : List Rat2) : List Value := l.flatMap ratC

theorem flatR_append (l m : List Rat2) : flatR (l ++ m) = flatR l ++ flatR m := by simp [flatR]
theorem flatR_snoc (l : List Rat2) (x : Rat2) : flatR (l ++ [x]) = flatR l ++ [.int .i64 x.1, .int .i64 x.2] := by simp [flatR, ratC]
theorem flatR_at : ∀ (l : List Rat2) (j : Nat), j < l.length → (flatR l)[j * 2]? = some (.int .i64 (l.getD j (0, 0)).1) ∧ (flatR l)[j * 2 + 1]? = some (.int .i64 (l.getD j (0, 0)).2)
  | d :: l, 0, _ => by simp [flatR, ratC]
  | d :: l, j + 1, h => by
    have ih := flatR_at l j (by simpa using h)
    have e : ∀ i, (flatR (d :: l))[(j + 1) * 2 + i]? = (flatR l)[j * 2 + i]? := fun i => by
      rw [show (j + 1) * 2 + i = (j * 2 + i) + 2 by omega]
      simp [flatR, ratC]
    have e0 := e 0
    simp only [Nat.add_zero] at e0
    rw [e0, e 1]
    simpa using ih

/-- The slice value owns the ratios l, in memory from B on. -/
def OwnR (w : World) (B : Nat) (v : Value) (l : List Rat2) : Prop := w.ownsRow B 23 2 v l.length (flatR l)

theorem OwnR.at {W : World} {base : Nat} {v : Value} {l : List Rat2} (h : OwnR W base v l) (hl : l.length ≤ 9223372036854775807) : RatsAt W v l := by
  rcases h.2 with ⟨rfl, h0⟩ | ⟨g, cap, cur, rfl, hg, hh, h1, h2, h3, h4⟩
  · exact ⟨none, 0, by rw [h0], ⟨hl, by omega⟩, fun h => by omega⟩
  · refine ⟨some ⟨g, 0, none⟩, cap, rfl, ⟨hl, h1⟩, fun h0 => ⟨g, 0, rfl, fun j hj => ?_⟩⟩
    obtain ⟨e1, e2⟩ := flatR_at l j hj
    simp only [Nat.zero_add]
    exact ⟨(World.ownsRow.cellAt h _ (by omega)).trans e1, (World.ownsRow.cellAt h _ (by omega)).trans e2⟩

theorem own_below {w w' : World} {B : Nat} {e : TypeId} {size n : Nat} {v : Value} {xs : List Value} (h : w.ownsRow B e size v n xs) (hb : Below w.heap.size w w') : w'.ownsRow B e size v n xs := by
  refine ⟨h.1, ?_⟩
  rcases h.2 with hn | ⟨g, cap, cur, rfl, hg, hh, r⟩
  · exact .inl hn
  · exact .inr ⟨g, cap, cur, rfl, hg, (hb.block g (Array.getElem?_eq_some_iff.1 hh).1).trans hh, r⟩
theorem OwnR.below {w w' : World} {B : Nat} {v : Value} {l : List Rat2} (h : OwnR w B v l) (hb : Below w.heap.size w w') : OwnR w' B v l := own_below h hb
theorem OwnR.base {w : World} {B B' : Nat} {v : Value} {l : List Rat2} (h : OwnR w B v l) (hB : B' ≤ B) : OwnR w B' v l := by
  refine ⟨h.1, ?_⟩
  rcases h.2 with hn | ⟨g, cap, cur, rfl, hg, r⟩
  · exact .inl hn
  · exact .inr ⟨g, cap, cur, rfl, Nat.le_trans hB hg, r⟩
theorem OwnR.nil (w : World) (B : Nat) : OwnR w B (.slice none 0 0) [] := World.ownsRow_nil _ _ _ _
theorem OwnR.snoc {w : World} {B : Nat} {v : Value} {l : List Rat2} {x : Rat2} {n : Nat} (hn : n = l.length) (h : w.ownsRow B 23 2 v (n + 1) (flatR l ++ [.int .i64 x.1, .int .i64 x.2])) : OwnR w B v (l ++ [x]) := by
  unfold OwnR
  rw [flatR_snoc, List.length_append, ← hn]
  exact h

theorem Try.infoRatio : (Try.prog.info? 23).map (fun i => (i.zero, i.size, i.bytes)) = some (some (.agg #[.int .i64 0, .int .i64 0]), 2, 16) := by kernel_rfl

theorem cell2_new {n : Nat} (w : World) (x y : Value) (t : TypeId) (hn : w.heap.size = n) : ∀ j u, [x, y][j]? = some u → (w.alloc (.cells #[x, y] t)).cell? ((⟨n, 0, none⟩ : Addr).add j) = some u := by
  subst hn
  intro j u hj
  match j, hj with
  | 0, hj => simp at hj; subst hj; simp [Addr.add]
  | 1, hj => simp at hj; subst hj; simp [Addr.add]

/-- The block of a struct result, made first. -/
theorem res_cells {w wr : World} {t : TypeId} {x y : Value} (hb : Below (w.heap.size + 1) (w.alloc (.cells #[x, y] t)) wr) :
    (wr.cell? ⟨w.heap.size, 0, none⟩ = some x ∧ wr.cell? ⟨w.heap.size, 1, none⟩ = some y) ∧ wr.frozen? ⟨w.heap.size, 0, none⟩ = false ∧ wr.frozen? ⟨w.heap.size, 1, none⟩ = false :=
  ⟨⟨(hb.cell (p := ⟨w.heap.size, 0, none⟩) (Nat.lt_succ_self _)).trans (by simp), (hb.cell (p := ⟨w.heap.size, 1, none⟩) (Nat.lt_succ_self _)).trans (by simp)⟩,
   (hb.frozen (p := ⟨w.heap.size, 0, none⟩) (Nat.lt_succ_self _)).trans (by simp), (hb.frozen (p := ⟨w.heap.size, 1, none⟩) (Nat.lt_succ_self _)).trans (by simp)⟩
theorem res_below {w wr : World} {t : TypeId} {x y : Value} (hb : Below (w.heap.size + 1) (w.alloc (.cells #[x, y] t)) wr) (a b : Value) :
    Below w.heap.size w ((wr.setCell ⟨w.heap.size, 0, none⟩ a).setCell ⟨w.heap.size, 1, none⟩ b) :=
  ((((Below.refl _ w).alloc (Nat.le_refl _) _).trans (hb.mono (Nat.le_succ _))).setCell (Nat.le_refl _) _).setCell (Nat.le_refl _) _

theorem two_boxes (w : World) (a b c d : Value) (t : TypeId) : Below w.heap.size w ((w.alloc (.cells #[a, b] t)).alloc (.cells #[c, d] t)) := ((Below.refl _ w).alloc (Nat.le_refl _) _).alloc (by simp) _

set_option maxHeartbeats 400000 in
theorem compare_any (a b c d : Int) (w : World) (h1 : -1000000000000000000 ≤ a * d ∧ a * d ≤ 1000000000000000000) (h2 : -1000000000000000000 ≤ c * b ∧ c * b ≤ 1000000000000000000) :
    Calls Try.prog 66 #[.agg #[.int .i64 a, .int .i64 b], .agg #[.int .i64 c, .int .i64 d]] w fun e w' => e = .returned (.int .i64 (Lib.compareInt (a * d) (c * b))) ∧ Below w.heap.size w w' := by
  have hal := two_boxes w (.int .i64 a) (.int .i64 b) (.int .i64 c) (.int .i64 d) 23
  go_enter Try.func66, Try.ntmps66
  go_wp2_with fail
  refine (Try.cmp_Compare_int _ _ _).mono ?_
  rintro e w' ⟨rfl, rfl⟩
  go_wp2
  go_ret
  exact ⟨rfl, hal⟩

set_option maxHeartbeats 400000 in
theorem rBelow_any (a b c d : Int) (w : World) (h1 : -1000000000000000000 ≤ a * d ∧ a * d ≤ 1000000000000000000) (h2 : -1000000000000000000 ≤ c * b ∧ c * b ≤ 1000000000000000000) :
    Calls Try.prog 83 #[.agg #[.int .i64 a, .int .i64 b], .agg #[.int .i64 c, .int .i64 d]] w fun e w' => e = .returned (.bool (decide (a * d < c * b))) ∧ Below w.heap.size w w' := by
  have hal := two_boxes w (.int .i64 a) (.int .i64 b) (.int .i64 c) (.int .i64 d) 23
  go_enter Try.func83, Try.ntmps83
  go_wp2
  go_ret
  exact ⟨rfl, hal⟩


set_option maxHeartbeats 400000 in
theorem plus_any (a b c d : Int) (w : World) (h1 : -1000000000000000000 ≤ a * d ∧ a * d ≤ 1000000000000000000) (h2 : -1000000000000000000 ≤ c * b ∧ c * b ≤ 1000000000000000000) (h3 : 1 ≤ b * d ∧ b * d ≤ 1000000000000000000) :
    Calls Try.prog 89 #[.agg #[.int .i64 a, .int .i64 b], .agg #[.int .i64 c, .int .i64 d]] w fun e w' => e = .returned (ratV (a * d + c * b) (b * d)) ∧ Below w.heap.size w w' := by
  have hal := two_boxes w (.int .i64 a) (.int .i64 b) (.int .i64 c) (.int .i64 d) 23
  go_enter Try.func89, Try.ntmps89
  go_wp2_with fail
  refine (ratio_any _ _ _ (by omega) (by omega) (by omega) (by omega)).mono ?_
  rintro e w1 ⟨rfl, hb1⟩
  generalize hW : (w.alloc (.cells #[.int .i64 a, .int .i64 b] 23)).alloc (.cells #[.int .i64 c, .int .i64 d] 23) = W at *
  have hs : W.heap.size = w.heap.size + 2 := by rw [← hW]; simp
  have hbr : Below (W.heap.size + 1) (W.alloc (.cells #[.int .i64 0, .int .i64 0] 23)) w1 := by rwa [World.size_alloc] at hb1
  have e2 : w.heap.size + 1 + 1 = W.heap.size := by omega
  obtain ⟨⟨c0, c1⟩, f0, f1⟩ := res_cells hbr
  have hB := Lib.hid (below_trans hal (res_below hbr (.int .i64 (rn (a * d + c * b) (b * d))) (.int .i64 (rd (a * d + c * b) (b * d)))))
  rw [← e2] at c0 c1 f0 f1 hB
  clear hW hs hb1 hbr hal e2
  unfold ratV
  go_wp2
  exact bodyPost_ret (v := ratV (a * d + c * b) (b * d)) (by unfold ratV; simp [results, Try.results89, go_sem, c0, c1]) rfl ⟨rfl, hB.out⟩

set_option maxHeartbeats 400000 in
theorem minus_any (a b c d : Int) (w : World) (h1 : -1000000000000000000 ≤ a * d ∧ a * d ≤ 1000000000000000000) (h2 : -1000000000000000000 ≤ c * b ∧ c * b ≤ 1000000000000000000) (h3 : 1 ≤ b * d ∧ b * d ≤ 1000000000000000000) (h4 : -1000000000000000000 ≤ c ∧ c ≤ 1000000000000000000) :
    Calls Try.prog 86 #[.agg #[.int .i64 a, .int .i64 b], .agg #[.int .i64 c, .int .i64 d]] w fun e w' => e = .returned (ratV (a * d - c * b) (b * d)) ∧ Below w.heap.size w w' := by
  have hal := two_boxes w (.int .i64 a) (.int .i64 b) (.int .i64 c) (.int .i64 d) 23
  have hn : -c * b = -(c * b) := Int.neg_mul c b
  have P := Lib.hid (fun W => plus_any a b (-c) d W h1 (by rw [hn]; omega) h3)
  have E : Hid (ratV (a * d + -c * b) (b * d) = ratV (a * d - c * b) (b * d)) := Lib.hid (by rw [hn]; rfl)
  clear hn
  go_enter Try.func86, Try.ntmps86
  go_wp2_with fail
  refine (P.out _).mono ?_
  rintro e w1 ⟨rfl, hb1⟩
  rw [E.out]
  clear P E
  generalize hW : (w.alloc (.cells #[.int .i64 a, .int .i64 b] 23)).alloc (.cells #[.int .i64 c, .int .i64 d] 23) = W at *
  have hs : W.heap.size = w.heap.size + 2 := by rw [← hW]; simp
  have hbr : Below (W.heap.size + 1) (W.alloc (.cells #[.int .i64 0, .int .i64 0] 23)) w1 := by rwa [World.size_alloc] at hb1
  have e2 : w.heap.size + 1 + 1 = W.heap.size := by omega
  obtain ⟨⟨c0, c1⟩, f0, f1⟩ := res_cells hbr
  have hB := Lib.hid (below_trans hal (res_below hbr (.int .i64 (rn (a * d - c * b) (b * d))) (.int .i64 (rd (a * d - c * b) (b * d)))))
  rw [← e2] at c0 c1 f0 f1 hB
  clear hW hs hb1 hbr hal e2
  unfold ratV
  go_wp2
  exact bodyPost_ret (v := ratV (a * d - c * b) (b * d)) (by unfold ratV; simp [results, Try.results86, go_sem, c0, c1]) rfl ⟨rfl, hB.out⟩

theorem rawLev_drop {l : List Int} {k : Nat} (e1 : Int) (hlt : k < l.length) : rawLev (l.drop k) e1 = if e1 ≤ l.getD k 0 * ((l.length : Int) - k) then (e1, (l.length : Int) - k) else rawLev (l.drop (k + 1)) (e1 - l.getD k 0) := by
  have e : (((l.drop (k + 1)).length : Nat) : Int) + 1 = (l.length : Int) - k := by simp; omega
  rw [List.drop_eq_getElem_cons hlt, rawLev, e, List.getD_eq_getElem?_getD, List.getElem?_eq_getElem hlt]
  rfl

theorem ratV_red (n d : Int) : ratV n d = .agg #[.int .i64 (red n d).1, .int .i64 (red n d).2] := rfl

set_option maxRecDepth 100000 in
set_option maxHeartbeats 1000000 in
theorem level_any (v : Value) (c : List Int) (e0 : Int) (w : World) (hv : IntsAt w v c) (hc : Cvl c) (he : 0 ≤ e0) (hes : e0 ≤ tot c ∧ e0 ≤ 8000) :
    Calls Try.prog 104 #[v, .int .i64 e0] w fun e w' => e = .returned (ratV (rawLev (srt c) e0).1 (rawLev (srt c) e0).2) ∧ Below w.heap.size w w' := by
  have hlen : (srt c).length = c.length := srt_length c
  have hhi := hc.hi
  have hlo := hc.lo
  have l8 : (srt c).length ≤ 8 := by omega
  have l1 : 0 < (srt c).length := by omega
  have hmem : Hid (∀ j, j < (srt c).length → 0 ≤ (srt c).getD j 0 ∧ (srt c).getD j 0 ≤ 1000) := Lib.hid (fun j hj => hc.holds _ ((sort_perm c).mem_iff.1 (mem_getD hj)))
  have hal : Below w.heap.size w (w.alloc (.cells #[.int .i64 0, .int .i64 0] 23)) := (Below.refl _ w).alloc (Nat.le_refl _) _
  have HV := Lib.hid (hv.below hal)
  clear hlen hv hc
  go_enter Try.func104, Try.ntmps104
  go_wp2_with fail
  refine (values_any _ _ _ HV.out).mono ?_
  rintro e w1 ⟨rfl, rfl⟩
  go_wp2_with fail
  refine (sorted_any _ v c (by omega) _ (by simp) (HV.out.below ((Below.refl _ _).alloc (Nat.le_refl _) _))).mono ?_
  rintro e w1 ⟨v1, rfl, hrow, hb1⟩
  have hbr : Below (w.heap.size + 1) (w.alloc (.cells #[.int .i64 0, .int .i64 0] 23)) w1 := ((Below.refl _ _).alloc (by simp) _).trans (hb1.mono (by simp))
  obtain ⟨b, off, cap, rfl, hcell⟩ := ints_cell (own_ints hrow (by omega)) l1
  have HC := Lib.hid hcell
  clear hrow hb1 hcell
  go_wp2
  go_loop [1, 14] (fun en i => ∃ (k : Nat) (e1 : Int), k ≤ (srt c).length ∧ i = .int .i64 k ∧ en = .int .i64 e1 ∧ 0 ≤ e1 ∧ e1 ≤ 8000 ∧ Hid (rawLev ((srt c).drop k) e1 = rawLev (srt c) e0)) (fun _ i => (srt c).length - (intOf i).toNat)
  case atStart => exact ⟨0, e0, Nat.zero_le _, rfl, rfl, he, hes.2, Lib.hid rfl⟩
  case round =>
    obtain ⟨k, e1, hk, rfl, rfl, g0, g1, H⟩ := hrel
    by_cases hlt : k < (srt c).length
    · have hx := hmem.out k hlt
      have hcell := HC.out k hlt
      have U := Lib.hid (rawLev_drop e1 hlt)
      generalize (srt c).getD k 0 = x at *
      have m1 : 0 ≤ x * (((srt c).length : Int) - k) ∧ x * (((srt c).length : Int) - k) ≤ 1000 * 8 := ⟨Int.mul_nonneg (by omega) (by omega), Int.mul_le_mul (by omega) (by omega) (by omega) (by omega)⟩
      have m2 : x * 1 ≤ x * (((srt c).length : Int) - k) := Int.mul_le_mul_of_nonneg_left (by omega) (by omega)
      by_cases hge : e1 ≤ x * (((srt c).length : Int) - k)
      · have R : Hid (rawLev (srt c) e0 = (e1, ((srt c).length : Int) - k)) := Lib.hid (by rw [← H.out, U.out, if_pos hge])
        go_wp2_with fail
        refine (ratio_any _ _ _ (by omega) (by omega) (by omega) (by omega)).mono ?_
        rintro e w2 ⟨rfl, hb2⟩
        have hbr2 := hbr.trans (hb2.mono (by have := hbr.size; rwa [World.size_alloc] at this))
        obtain ⟨⟨c0, c1⟩, f0, f1⟩ := res_cells hbr2
        have hB := Lib.hid (res_below hbr2 (.int .i64 (rn e1 (((srt c).length : Int) - k))) (.int .i64 (rd e1 (((srt c).length : Int) - k))))
        unfold ratV
        go_wp2
        exact bodyPost_ret (v := ratV e1 (((srt c).length : Int) - k)) (by unfold ratV; simp [results, Try.results104, go_sem, c0, c1]) rfl ⟨by rw [R.out], hB.out⟩
      · have R : Hid (rawLev ((srt c).drop (k + 1)) (e1 - x) = rawLev (srt c) e0) := Lib.hid (by rw [← H.out, U.out, if_neg hge])
        go_wp2
        go_round
        case rel => exact ⟨k + 1, e1 - x, by omega, by go_num, rfl, by omega, by omega, R⟩
        case measure => simp [intOf]; omega
    · have e : k = (srt c).length := by omega
      subst e
      have R : Hid (rawLev (srt c) e0 = (0, 1)) := Lib.hid (by rw [← H.out, List.drop_length]; rfl)
      go_wp2_with fail
      refine (ratio_any _ _ _ (by omega) (by omega) (by omega) (by omega)).mono ?_
      rintro e w2 ⟨rfl, hb2⟩
      have hbr2 := hbr.trans (hb2.mono (by have := hbr.size; rwa [World.size_alloc] at this))
      obtain ⟨⟨c0, c1⟩, f0, f1⟩ := res_cells hbr2
      have hB := Lib.hid (res_below hbr2 (.int .i64 (rn 0 1)) (.int .i64 (rd 0 1)))
      unfold ratV
      go_wp2
      exact bodyPost_ret (v := ratV 0 1) (by unfold ratV; simp [results, Try.results104, go_sem, c0, c1]) rfl ⟨by rw [R.out], hB.out⟩

end Go.Proofs.Ytaakefjblldccaa

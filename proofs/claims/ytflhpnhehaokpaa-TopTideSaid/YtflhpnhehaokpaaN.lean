/- Plain mathematics of tides that are shifted, run back, and summed. -/
import Derived.Test.YtflhpnhehaokpaaK
namespace Go.Proofs.Ytflhpnhehaokpaa

theorem wat_mapW (f : Nat → Int) (n : Nat) (hn : 0 < n) (h : Int) : wat (mapW f n) h = f (h % (n : Int)).toNat := by
  unfold wat
  rw [mapW_length]
  have h1 := Int.emod_nonneg h (show (n : Int) ≠ 0 by omega)
  have h2 := Int.emod_lt_of_pos h (show (0 : Int) < n by omega)
  have h3 : (h % (n : Int)).toNat < n := by omega
  simp [mapW, List.getD_eq_getElem?_getD, h3]

theorem wat_mod (l : List Int) (h : Int) : wat l (h % (l.length : Int)) = wat l h := by unfold wat; rw [Int.emod_emod]

theorem wat_neg_mod (l : List Int) (h : Int) : wat l (-(h % (l.length : Int))) = wat l (-h) := by
  have := (wat_per l).mul (h / (l.length : Int)) (-h)
  rw [← this]
  congr 1
  have := Int.emod_add_ediv_mul h (l.length : Int)
  omega

theorem wat_add_mod (l : List Int) (h b : Int) : wat l (h % (l.length : Int) + b) = wat l (h + b) := by
  have := (wat_per l).mul (h / (l.length : Int)) (h % (l.length : Int) + b)
  rw [← this]
  congr 1
  have := Int.emod_add_ediv_mul h (l.length : Int)
  omega

theorem wat_nat (l : List Int) (i : Nat) (hi : i < l.length) : wat l (i : Int) = l.getD i 0 := by
  unfold wat
  rw [Int.emod_eq_of_lt (by omega) (by omega), Int.toNat_natCast]

theorem wat_back {l : List Int} (h0 : 0 < l.length) (h : Int) : wat (mapW (fun i => -wat l (-(i : Int))) l.length) h = -wat l (-h) := by
  rw [wat_mapW _ _ h0]
  have h1 := Int.emod_nonneg h (show (l.length : Int) ≠ 0 by omega)
  simp only [Int.toNat_of_nonneg h1, wat_neg_mod]

theorem wat_shift {l : List Int} (h0 : 0 < l.length) (b h : Int) : wat (mapW (fun i => wat l ((i : Int) + b)) l.length) h = wat l (h + b) := by
  rw [wat_mapW _ _ h0]
  have h1 := Int.emod_nonneg h (show (l.length : Int) ≠ 0 by omega)
  simp only [Int.toNat_of_nonneg h1, wat_add_mod]

theorem spd_backT {t : List (List Int)} (ht : Vld t) (h : Int) : spd (backT t) h = -spd t (-h) := by
  have : ∀ t : List (List Int), (∀ l ∈ t, 0 < l.length) → spd (backT t) h = -spd t (-h) := by
    intro t
    induction t with
    | nil => intro _; rfl
    | cons l t ih =>
      intro hl
      have h1 := ih (fun m hm => hl m (by simp [hm]))
      have h2 := wat_back (hl l (by simp)) h
      show spd (mapW _ _ :: backT t) h = _
      rw [spd_cons, spd_cons, h1, h2]
      omega
  exact this t (fun l hl => (ht.wave l hl).1)

theorem spd_shiftT {t : List (List Int)} (ht : Vld t) (b h : Int) : spd (shiftT b t) h = spd t (h + b) := by
  have : ∀ t : List (List Int), (∀ l ∈ t, 0 < l.length) → spd (shiftT b t) h = spd t (h + b) := by
    intro t
    induction t with
    | nil => intro _; rfl
    | cons l t ih =>
      intro hl
      have h1 := ih (fun m hm => hl m (by simp [hm]))
      have h2 := wat_shift (hl l (by simp)) b h
      show spd (mapW _ _ :: shiftT b t) h = _
      rw [spd_cons, spd_cons, h1, h2]
  exact this t (fun l hl => (ht.wave l hl).1)

theorem vld_mapT {f : List Int → Nat → Int} {t : List (List Int)} (ht : Vld t) (hf : ∀ l ∈ t, ∀ i, -100 ≤ f l i ∧ f l i ≤ 100) : Vld (mapT f t) := by
  refine ⟨by rw [mapT_length]; exact ht.lo, by rw [mapT_length]; exact ht.hi, fun l hl => ?_⟩
  obtain ⟨m, hm, rfl⟩ := List.mem_map.1 hl
  rw [mapW_length]
  refine ⟨(ht.wave m hm).1, (ht.wave m hm).2.1, fun n hn => ?_⟩
  obtain ⟨i, _, rfl⟩ := List.mem_map.1 hn
  exact hf m hm i

theorem vld_backT {t : List (List Int)} (ht : Vld t) : Vld (backT t) :=
  vld_mapT ht fun l hl i => by have := wat_bound (ht.wave l hl).2.2 (-(i : Int)); omega
theorem vld_shiftT {t : List (List Int)} (ht : Vld t) (b : Int) : Vld (shiftT b t) :=
  vld_mapT ht fun l hl _ => wat_bound (ht.wave l hl).2.2 _

theorem rnd_mapT (f : List Int → Nat → Int) (t : List (List Int)) : rnd (mapT f t) = rnd t := by
  unfold rnd mapT
  rw [List.foldl_map]
  simp only [mapW_length]

theorem back_wave {l : List Int} (h0 : 0 < l.length) : mapW (fun i => -wat (mapW (fun i => -wat l (-(i : Int))) l.length) (-(i : Int))) l.length = l := by
  apply List.ext_getElem (by simp [mapW])
  intro j h1 h2
  simp only [mapW, List.getElem_map, List.getElem_range]
  rw [show (List.map (fun i : Nat => -wat l (-(i : Int))) (List.range l.length)) = mapW (fun i => -wat l (-(i : Int))) l.length from rfl, wat_back h0, Int.neg_neg, Int.neg_neg, wat_nat l j h2]
  simp [List.getD_eq_getElem?_getD, h2]

theorem back_back {t : List (List Int)} (ht : Vld t) : backT (backT t) = t := by
  unfold backT mapT
  rw [List.map_map]
  conv => rhs; rw [← List.map_id t]
  apply List.map_congr_left
  intro l hl
  simp only [Function.comp, mapW_length, id]
  exact back_wave (ht.wave l hl).1

theorem acc_backT {t : List (List Int)} (ht : Vld t) (a : Int) (n : Nat) : acc (spd (backT t)) a n = -acc (spd t) (1 - a - n) n := by
  rw [← acc_back (spd t) a n, ← acc_neg]
  exact acc_congr fun _ _ => spd_backT ht _

theorem acc_shiftT {t : List (List Int)} (ht : Vld t) (b a : Int) (n : Nat) : acc (spd (shiftT b t)) a n = acc (spd t) (a + b) n :=
  acc_congr fun _ _ => by rw [spd_shiftT ht]; congr 1; omega

end Go.Proofs.Ytflhpnhehaokpaa

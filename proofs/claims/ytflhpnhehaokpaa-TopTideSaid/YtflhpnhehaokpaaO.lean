/- Contracts: the reference's Shifted and Back. -/
import Derived.Test.YtflhpnhehaokpaaM
import Derived.Test.YtflhpnhehaokpaaN
namespace Go.Proofs.Ytflhpnhehaokpaa
open Go.RowKit

/-- A cell of a wave at a reckoned index. -/
theorem wave_cell {w : World} {v : Value} {l : List Int} (h : IntsAt w v l) (h0 : 0 < l.length) :
    ∃ b off cap, v = .slice (some ⟨b, off, none⟩) l.length cap ∧ ∀ x : Int, w.cell? ⟨b, off + (x % (l.length : Int)).toNat, none⟩ = some (.int .i64 (wat l x)) := by
  obtain ⟨b, off, cap, rfl, hc⟩ := ints_cell h h0
  refine ⟨b, off, cap, rfl, fun x => ?_⟩
  have h1 := Int.emod_nonneg x (show (l.length : Int) ≠ 0 by omega)
  have h2 := Int.emod_lt_of_pos x (show (0 : Int) < l.length by omega)
  exact hc _ (by omega)


set_option maxHeartbeats 2000000 in
theorem rShifted_any (v : Value) (t : List (List Int)) (by' : Int) (w : World) (hv : RowsAt w v t) :
    Calls Try.prog 40 #[v, .int .i64 by'] w (GivesRE (qr t (hourB by') (shiftT by' t)) (qe t (hourB by')) w) := by
  cases hy : vld t with
  | false =>
    rw [qr_no hy, qe_no hy]
    have Y := Lib.hid hy
    clear hy
    go_enter Try.func40, Try.ntmps40
    go_wp2_with (first
      | (go_at_call 22; refine (rValid_any _ _ _ hv).mono ?_; rintro e w' ⟨rfl, rfl⟩; rw [Y.out]))
    go_ret2
    exact ⟨_, rfl, nil_rows _, Below.refl _ _⟩
  | true =>
    have ht := (vld_iff t).1 hy
    cases hh : hourB by' with
    | false =>
      rw [qr_mid, qe_mid hy]
      have Y := Lib.hid hy
      have HH := Lib.hid hh
      clear hy hh
      go_enter Try.func40, Try.ntmps40
      go_wp2_with (first
        | (go_at_call 22; refine (rValid_any _ _ _ hv).mono ?_; rintro e w' ⟨rfl, rfl⟩; rw [Y.out])
        | (go_at_call_of 23 (Value.int .i64 by'); refine (rIsHour_any _ _).mono ?_; rintro e w' ⟨rfl, rfl⟩; rw [HH.out]))
      go_ret2
      exact ⟨_, rfl, nil_rows _, Below.refl _ _⟩
    | true =>
      rw [qr_yes hy, qe_yes hy]
      have hbb := (hourB_iff _).1 hh
      have hlo := ht.lo
      have hhi := ht.hi
      have Y := Lib.hid hy
      have HH := Lib.hid hh
      clear hy hh
      obtain ⟨i0, hi0, hz0, hz1, hz2⟩ := info_parts Try.infoInts
      obtain ⟨j0, hj0, hy0, hy1, hy2⟩ := info_parts Try.infoInt
      obtain ⟨a, cap, rfl, hl, hq⟩ := id hv
      obtain ⟨b, off, rfl, hc⟩ := hq (by omega)
      clear hq
      go_enter Try.func40, Try.ntmps40
      go_wp2_with (first
        | (go_at_call 22; refine (rValid_any _ _ _ hv).mono ?_; rintro e w' ⟨rfl, rfl⟩; rw [Y.out])
        | (go_at_call_of 23 (Value.int .i64 by'); refine (rIsHour_any _ _).mono ?_; rintro e w' ⟨rfl, rfl⟩; rw [HH.out]))
      clear hv
      go_loopw [6, 19] (fun o i wr => ∃ (k : Nat) (xs : List Value), k ≤ t.length ∧ i = .int .i64 k ∧ xs.length = k ∧ wr.ownsRow w.heap.size 34 1 o k xs ∧
          (∀ j, j < k → wr.ownsRow w.heap.size 3 1 (xs.getD j undef) (mapW ((fun (l : List Int) (i : Nat) => wat l ((i : Int) + by')) (t.getD j [])) (t.getD j []).length).length ((mapW ((fun (l : List Int) (i : Nat) => wat l ((i : Int) + by')) (t.getD j [])) (t.getD j []).length).map (Value.int .i64))) ∧ Below w.heap.size w wr)
        (fun _ i _ => t.length - (intOf i).toNat)
      case atStart => exact ⟨0, [], Nat.zero_le _, rfl, rfl, World.ownsRow_nil _ _ _ _, fun j hj => by omega, Below.refl _ _⟩
      case round =>
        obtain ⟨k, xs, hk, rfl, hxs, hown, hall, hbel⟩ := hrel
        have hsz := hbel.size
        have XL := Lib.hid hxs
        have HA := Lib.hid hall
        clear hxs hall
        by_cases hlt : k < t.length
        · obtain ⟨x, hx0, hi⟩ := hc k hlt
          have hmem := getD_mem hlt
          have hl12 := (ht.wave _ hmem).2.1
          have hl1 := (ht.wave _ hmem).1
          have hbn := (ht.wave _ hmem).2.2
          generalize hlk : t.getD k [] = lk at hi hmem hl12 hl1 hbn
          have LK := Lib.hid hlk
          clear hlk
          have HBN := Lib.hid hbn
          obtain ⟨rb, ro, rc, rfl, hwc⟩ := wave_cell (hi.below hbel) hl1
          have HWC := Lib.hid hwc
          have hx := keep_cell hbel hx0
          clear hx0 hi hc hmem hwc hbn
          obtain ⟨wo, rfl⟩ : ∃ wo : World, wo = wr := ⟨_, rfl⟩
          go_wp2_with (at_make; refine wpList_make_full _ rfl _ _ 34 rfl wo.heap.size 3 j0 (.int .i64 0) 1 Try.underlying34 hj0 hy0 hy1 .i64 .i64 _ _ lk.length rfl rfl rfl rfl (by rw [hy2]; omega) (by unfold maxLen; omega) (Nat.le_refl _) ?_; intro w1 hown1 hgrow1)
          have hb1 : Below wo.heap.size wo w1 := (Below.refl _ _).grown hgrow1 (Nat.le_refl _) (fun k e => by cases e)
          generalize (madeCells (Value.int .i64 0).cells (lk.length * 1)).toList = ys at hown1
          clear hgrow1
          go_loopw [28] (fun i wi => ∃ (m : Nat) (zs : List Value), m ≤ lk.length ∧ i = .int .i64 m ∧ wi.ownsRow wo.heap.size 3 1 (.slice (some ⟨wo.heap.size, 0, none⟩) lk.length lk.length) lk.length zs ∧ (∀ j, j < m → zs.getD j undef = .int .i64 ((fun (l : List Int) (i : Nat) => wat l ((i : Int) + by')) lk j)) ∧ Below wo.heap.size wo wi)
            (fun i _ => lk.length - (intOf i).toNat)
          case atStart => exact ⟨0, _, Nat.zero_le _, rfl, hown1, fun j hj => by omega, hb1⟩
          case round =>
            obtain ⟨m, zs, hm, rfl, howi, hali, hbi⟩ := hrel
            have A := Lib.hid hali
            clear hali hb1 hown1
            by_cases hlt2 : m < lk.length
            · have hxl := howi.1
              have hcell : wr.cell? ⟨wo.heap.size, m, none⟩ = some (zs.getD m undef) := by
                rw [howi.cellAt m (by omega), List.getD_eq_getElem?_getD, List.getElem?_eq_getElem (by omega)]; rfl
              have hfr := howi.frozenAt m
              obtain ⟨st1, st2⟩ := howi.stored m (.int .i64 ((fun (l : List Int) (i : Nat) => wat l ((i : Int) + by')) lk m))
              have hrd := keep_cell hbi (HWC.out ((m : Int) + by'))
              have hm1 := Int.emod_nonneg ((m : Int) + by') (show (lk.length : Int) ≠ 0 by omega)
              have hm2 := Int.emod_lt_of_pos ((m : Int) + by') (show (0 : Int) < lk.length by omega)
              have hwb := wat_bound HBN.out ((m : Int) + by')
              have XL2 := Lib.hid hxl
              have S1 := Lib.hid st1
              generalize zs.getD m undef = old at hcell
              clear hxl st1 st2
              skip
              go_wp2_with (go_at_call 82; refine (modulo_any _ _ _ (by omega) (by omega)).mono ?_; rintro e w' ⟨rfl, rfl⟩)
              go_roundw
              case rel => exact ⟨m + 1, zs.set m (.int .i64 ((fun (l : List Int) (i : Nat) => wat l ((i : Int) + by')) lk m)), by omega, by go_num, S1.out, fun j hj => by
                have hxl := XL2.out
                by_cases e : j = m
                · subst e; rw [List.getD_eq_getElem?_getD, List.getElem?_set_self (by omega)]; rfl
                · rw [List.getD_eq_getElem?_getD, List.getElem?_set_ne (by omega), ← List.getD_eq_getElem?_getD]; exact A.out j (by omega), hbi.setCell (Nat.le_refl _) _⟩
              case measure => simp [intOf]; omega
            · have e : m = lk.length := by omega
              subst e
              have hov : wr.ownsRow wo.heap.size 3 1 (.slice (some ⟨wo.heap.size, 0, none⟩) lk.length lk.length) (mapW ((fun (l : List Int) (i : Nat) => wat l ((i : Int) + by')) lk) lk.length).length ((mapW ((fun (l : List Int) (i : Nat) => wat l ((i : Int) + by')) lk) lk.length).map (Value.int .i64)) := by
                rw [mapW_length, ← mapW_vals howi.1 A.out]; exact howi
              obtain ⟨oa, oc, he, hown2, hbel2, hsz2, hov', HA2⟩ := mapped_step HA hown hbel hsz hov hbi
              have HE := Lib.hid he
              clear he hov hbi hbel hown HA hx howi A
              go_wp2_with (at_builtin; refine wpList_append_own _ rfl _ _ 22 rfl w.heap.size 34 i0 (.slice none 0 0) 1 24 Try.underlying22 hi0 hz0 hz1 hz2 rfl (by decide) _ _ _ rfl (hown2.alloc _) ⟨wr.heap.size, 0, none⟩ 1 1 [.slice (some ⟨wo.heap.size, 0, none⟩) lk.length lk.length] rfl rfl (cell_one_new _ _ _) ?c2 ?c3 ?c4 ?c5 ?_)
              case c2 => first | rfl | (intro u hu; simp at hu; subst hu; rfl)
              case c3 => unfold maxLen; omega
              case c4 => omega
              case c5 => first | omega | (simp; omega)
              · intro v' w3 hown' hgrow _
                have R := below_append hbel2 hsz2 hown2 hgrow
                have HA3 : Hid (∀ j, j < k + 1 → w3.ownsRow w.heap.size 3 1 ((xs ++ [Value.slice (some ⟨wo.heap.size, 0, none⟩) lk.length lk.length]).getD j undef) (mapW ((fun (l : List Int) (i : Nat) => wat l ((i : Int) + by')) (t.getD j [])) (t.getD j []).length).length ((mapW ((fun (l : List Int) (i : Nat) => wat l ((i : Int) + by')) (t.getD j [])) (t.getD j []).length).map (Value.int .i64))) := fun j hj => by
                  rcases Nat.lt_succ_iff_lt_or_eq.1 hj with h | rfl
                  · rw [getD_snoc_lt _ _ _ (by rw [XL.out]; exact h)]; exact own_append (HA2.out j h) hown2 (by decide) hgrow
                  · have e := getD_snoc_eq xs (.slice (some ⟨wo.heap.size, 0, none⟩) lk.length lk.length) undef
                    rw [XL.out] at e
                    rw [e, LK.out, HE.out]; exact own_append hov' hown2 (by decide) hgrow
                clear hown2 hgrow hbel2 hov' HA2
                go_wp2
                go_roundw
                case rel => exact ⟨k + 1, xs ++ [.slice (some ⟨wo.heap.size, 0, none⟩) lk.length lk.length], by omega, by go_num, by simp [XL.out], hown', HA3.out, R⟩
                case measure => simp [intOf]; omega
        · have e : k = t.length := by omega
          subst e
          go_wp2
          go_ret2
          refine ⟨_, rfl, own_rows (e := 34) (base := w.heap.size) (xs := xs) (by unfold shiftT; rw [mapT_length]; exact hown) (by unfold shiftT; rw [mapT_length]; omega) (fun i h => ?_), hbel⟩
          unfold shiftT at *
          rw [mapT_length] at h
          rw [mapT_get _ _ _ h]
          have := HA.out i h
          exact own_ints this (by rw [mapW_length]; have := (ht.wave _ (getD_mem h)).2.1; omega)

set_option maxHeartbeats 2000000 in
theorem rBack_any (v : Value) (t : List (List Int)) (w : World) (hv : RowsAt w v t) :
    Calls Try.prog 41 #[v] w (GivesRE (qr t true (backT t)) (qe t true) w) := by
  cases hy : vld t with
  | false =>
    rw [qr_no hy, qe_no hy]
    have Y := Lib.hid hy
    clear hy
    go_enter Try.func41, Try.ntmps41
    go_wp2_with (first
      | (go_at_call 22; refine (rValid_any _ _ _ hv).mono ?_; rintro e w' ⟨rfl, rfl⟩; rw [Y.out]))
    go_ret2
    exact ⟨_, rfl, nil_rows _, Below.refl _ _⟩
  | true =>
    have ht := (vld_iff t).1 hy
    rw [qr_yes hy, qe_yes hy]
    have hlo := ht.lo
    have hhi := ht.hi
    have Y := Lib.hid hy
    clear hy
    obtain ⟨i0, hi0, hz0, hz1, hz2⟩ := info_parts Try.infoInts
    obtain ⟨j0, hj0, hy0, hy1, hy2⟩ := info_parts Try.infoInt
    obtain ⟨a, cap, rfl, hl, hq⟩ := id hv
    obtain ⟨b, off, rfl, hc⟩ := hq (by omega)
    clear hq
    go_enter Try.func41, Try.ntmps41
    go_wp2_with (first
      | (go_at_call 22; refine (rValid_any _ _ _ hv).mono ?_; rintro e w' ⟨rfl, rfl⟩; rw [Y.out]))
    clear hv
    go_loopw [4, 14] (fun o i wr => ∃ (k : Nat) (xs : List Value), k ≤ t.length ∧ i = .int .i64 k ∧ xs.length = k ∧ wr.ownsRow w.heap.size 34 1 o k xs ∧
        (∀ j, j < k → wr.ownsRow w.heap.size 3 1 (xs.getD j undef) (mapW ((fun (l : List Int) (i : Nat) => -wat l (-(i : Int))) (t.getD j [])) (t.getD j []).length).length ((mapW ((fun (l : List Int) (i : Nat) => -wat l (-(i : Int))) (t.getD j [])) (t.getD j []).length).map (Value.int .i64))) ∧ Below w.heap.size w wr)
      (fun _ i _ => t.length - (intOf i).toNat)
    case atStart => exact ⟨0, [], Nat.zero_le _, rfl, rfl, World.ownsRow_nil _ _ _ _, fun j hj => by omega, Below.refl _ _⟩
    case round =>
      obtain ⟨k, xs, hk, rfl, hxs, hown, hall, hbel⟩ := hrel
      have hsz := hbel.size
      have XL := Lib.hid hxs
      have HA := Lib.hid hall
      clear hxs hall
      by_cases hlt : k < t.length
      · obtain ⟨x, hx0, hi⟩ := hc k hlt
        have hmem := getD_mem hlt
        have hl12 := (ht.wave _ hmem).2.1
        have hl1 := (ht.wave _ hmem).1
        have hbn := (ht.wave _ hmem).2.2
        generalize hlk : t.getD k [] = lk at hi hmem hl12 hl1 hbn
        have LK := Lib.hid hlk
        clear hlk
        have HBN := Lib.hid hbn
        obtain ⟨rb, ro, rc, rfl, hwc⟩ := wave_cell (hi.below hbel) hl1
        have HWC := Lib.hid hwc
        have hx := keep_cell hbel hx0
        clear hx0 hi hc hmem hwc hbn
        obtain ⟨wo, rfl⟩ : ∃ wo : World, wo = wr := ⟨_, rfl⟩
        go_wp2_with (at_make; refine wpList_make_full _ rfl _ _ 34 rfl wo.heap.size 3 j0 (.int .i64 0) 1 Try.underlying34 hj0 hy0 hy1 .i64 .i64 _ _ lk.length rfl rfl rfl rfl (by rw [hy2]; omega) (by unfold maxLen; omega) (Nat.le_refl _) ?_; intro w1 hown1 hgrow1)
        have hb1 : Below wo.heap.size wo w1 := (Below.refl _ _).grown hgrow1 (Nat.le_refl _) (fun k e => by cases e)
        generalize (madeCells (Value.int .i64 0).cells (lk.length * 1)).toList = ys at hown1
        clear hgrow1
        go_loopw [23] (fun i wi => ∃ (m : Nat) (zs : List Value), m ≤ lk.length ∧ i = .int .i64 m ∧ wi.ownsRow wo.heap.size 3 1 (.slice (some ⟨wo.heap.size, 0, none⟩) lk.length lk.length) lk.length zs ∧ (∀ j, j < m → zs.getD j undef = .int .i64 ((fun (l : List Int) (i : Nat) => -wat l (-(i : Int))) lk j)) ∧ Below wo.heap.size wo wi)
          (fun i _ => lk.length - (intOf i).toNat)
        case atStart => exact ⟨0, _, Nat.zero_le _, rfl, hown1, fun j hj => by omega, hb1⟩
        case round =>
          obtain ⟨m, zs, hm, rfl, howi, hali, hbi⟩ := hrel
          have A := Lib.hid hali
          clear hali hb1 hown1
          by_cases hlt2 : m < lk.length
          · have hxl := howi.1
            have hcell : wr.cell? ⟨wo.heap.size, m, none⟩ = some (zs.getD m undef) := by
              rw [howi.cellAt m (by omega), List.getD_eq_getElem?_getD, List.getElem?_eq_getElem (by omega)]; rfl
            have hfr := howi.frozenAt m
            obtain ⟨st1, st2⟩ := howi.stored m (.int .i64 ((fun (l : List Int) (i : Nat) => -wat l (-(i : Int))) lk m))
            have hrd := keep_cell hbi (HWC.out (-(m : Int)))
            have hm1 := Int.emod_nonneg (-(m : Int)) (show (lk.length : Int) ≠ 0 by omega)
            have hm2 := Int.emod_lt_of_pos (-(m : Int)) (show (0 : Int) < lk.length by omega)
            have hwb := wat_bound HBN.out (-(m : Int))
            have XL2 := Lib.hid hxl
            have S1 := Lib.hid st1
            generalize zs.getD m undef = old at hcell
            clear hxl st1 st2
            skip
            go_wp2_with (go_at_call 82; refine (modulo_any _ _ _ (by omega) (by omega)).mono ?_; rintro e w' ⟨rfl, rfl⟩)
            go_roundw
            case rel => exact ⟨m + 1, zs.set m (.int .i64 ((fun (l : List Int) (i : Nat) => -wat l (-(i : Int))) lk m)), by omega, by go_num, S1.out, fun j hj => by
              have hxl := XL2.out
              by_cases e : j = m
              · subst e; rw [List.getD_eq_getElem?_getD, List.getElem?_set_self (by omega)]; rfl
              · rw [List.getD_eq_getElem?_getD, List.getElem?_set_ne (by omega), ← List.getD_eq_getElem?_getD]; exact A.out j (by omega), hbi.setCell (Nat.le_refl _) _⟩
            case measure => simp [intOf]; omega
          · have e : m = lk.length := by omega
            subst e
            have hov : wr.ownsRow wo.heap.size 3 1 (.slice (some ⟨wo.heap.size, 0, none⟩) lk.length lk.length) (mapW ((fun (l : List Int) (i : Nat) => -wat l (-(i : Int))) lk) lk.length).length ((mapW ((fun (l : List Int) (i : Nat) => -wat l (-(i : Int))) lk) lk.length).map (Value.int .i64)) := by
              rw [mapW_length, ← mapW_vals howi.1 A.out]; exact howi
            obtain ⟨oa, oc, he, hown2, hbel2, hsz2, hov', HA2⟩ := mapped_step HA hown hbel hsz hov hbi
            have HE := Lib.hid he
            clear he hov hbi hbel hown HA hx howi A
            go_wp2_with (at_builtin; refine wpList_append_own _ rfl _ _ 22 rfl w.heap.size 34 i0 (.slice none 0 0) 1 24 Try.underlying22 hi0 hz0 hz1 hz2 rfl (by decide) _ _ _ rfl (hown2.alloc _) ⟨wr.heap.size, 0, none⟩ 1 1 [.slice (some ⟨wo.heap.size, 0, none⟩) lk.length lk.length] rfl rfl (cell_one_new _ _ _) ?c2 ?c3 ?c4 ?c5 ?_)
            case c2 => first | rfl | (intro u hu; simp at hu; subst hu; rfl)
            case c3 => unfold maxLen; omega
            case c4 => omega
            case c5 => first | omega | (simp; omega)
            · intro v' w3 hown' hgrow _
              have R := below_append hbel2 hsz2 hown2 hgrow
              have HA3 : Hid (∀ j, j < k + 1 → w3.ownsRow w.heap.size 3 1 ((xs ++ [Value.slice (some ⟨wo.heap.size, 0, none⟩) lk.length lk.length]).getD j undef) (mapW ((fun (l : List Int) (i : Nat) => -wat l (-(i : Int))) (t.getD j [])) (t.getD j []).length).length ((mapW ((fun (l : List Int) (i : Nat) => -wat l (-(i : Int))) (t.getD j [])) (t.getD j []).length).map (Value.int .i64))) := fun j hj => by
                rcases Nat.lt_succ_iff_lt_or_eq.1 hj with h | rfl
                · rw [getD_snoc_lt _ _ _ (by rw [XL.out]; exact h)]; exact own_append (HA2.out j h) hown2 (by decide) hgrow
                · have e := getD_snoc_eq xs (.slice (some ⟨wo.heap.size, 0, none⟩) lk.length lk.length) undef
                  rw [XL.out] at e
                  rw [e, LK.out, HE.out]; exact own_append hov' hown2 (by decide) hgrow
              clear hown2 hgrow hbel2 hov' HA2
              go_wp2
              go_roundw
              case rel => exact ⟨k + 1, xs ++ [.slice (some ⟨wo.heap.size, 0, none⟩) lk.length lk.length], by omega, by go_num, by simp [XL.out], hown', HA3.out, R⟩
              case measure => simp [intOf]; omega
      · have e : k = t.length := by omega
        subst e
        go_wp2
        go_ret2
        refine ⟨_, rfl, own_rows (e := 34) (base := w.heap.size) (xs := xs) (by unfold backT; rw [mapT_length]; exact hown) (by unfold backT; rw [mapT_length]; omega) (fun i h => ?_), hbel⟩
        unfold backT at *
        rw [mapT_length] at h
        rw [mapT_get _ _ _ h]
        have := HA.out i h
        exact own_ints this (by rw [mapW_length]; have := (ht.wave _ (getD_mem h)).2.1; omega)

end Go.Proofs.Ytflhpnhehaokpaa

/- Contract: Sum of the reference. -/
import Derived.Test.YtflhpnhehaokpaaQ
namespace Go.Proofs.Ytflhpnhehaokpaa
open Go.RowKit


theorem ints_news {w : World} {b off : Nat} {l : List Int} (hc : ∀ j, j < l.length → w.cell? ⟨b, off + j, none⟩ = some (.int .i64 (l.getD j 0))) (o : Obj) :
    ∀ j u, (l.map (Value.int .i64))[j]? = some u → (w.alloc o).cell? ((⟨b, off, none⟩ : Addr).add j) = some u := by
  intro j u hu
  rw [List.getElem?_map, Option.map_eq_some_iff] at hu
  obtain ⟨y, hy, rfl⟩ := hu
  obtain ⟨hj, rfl⟩ := List.getElem?_eq_some_iff.1 hy
  have := keep_cell ((Below.refl _ w).alloc (Nat.le_refl _) o) (hc j hj)
  rw [List.getD_eq_getElem?_getD, List.getElem?_eq_getElem hj] at this
  rw [add_plain2]
  exact this.trans (by simp)

theorem int_vals_one (l : List Int) : ∀ u ∈ l.map (Value.int .i64), u.oneCell' = true := by
  intro u hu; obtain ⟨y, _, rfl⟩ := List.mem_map.1 hu; rfl

theorem clone_below {w w1 : World} {t : TypeId} (hg : (w.alloc (.cells #[] t)).grownBy w1 (Value.ownBlock (.slice (some ⟨w.heap.size, 0, none⟩) 0 0))) : Below w.heap.size w w1 :=
  ((Below.refl _ w).alloc (Nat.le_refl _) _).grown hg (by simp) (fun k e => by simp [Value.ownBlock] at e; omega)


set_option maxHeartbeats 2000000 in
theorem rSum_any (v x : Value) (t u : List (List Int)) (w : World) (hv : RowsAt w v t) (hx : RowsAt w x u) :
    Calls Try.prog 42 #[v, x] w (GivesRE (sumT t u) (sumE t u) w) := by
  obtain ⟨va, vc, rfl, _, vq⟩ := id hv
  obtain ⟨xa, xc, rfl, _, xq⟩ := id hx
  cases ht : vld t with
  | false =>
    rw [(sum_no1 ht).1, (sum_no1 ht).2]
    have T := Lib.hid ht
    clear ht
    go_enter Try.func42, Try.ntmps42
    go_wp2_with fail
    refine (rValid_any _ _ _ hv).mono ?_
    rintro e w' ⟨rfl, rfl⟩
    rw [T.out]
    go_wp2
    go_ret2
    exact ⟨_, rfl, nil_rows _, Below.refl _ _⟩
  | true =>
    cases hu : vld u with
    | false =>
      rw [(sum_no2 hu).1, (sum_no2 hu).2]
      have T := Lib.hid ht
      have U := Lib.hid hu
      clear ht hu
      go_enter Try.func42, Try.ntmps42
      go_wp2_with fail
      refine (rValid_any _ _ _ hv).mono ?_
      rintro e w' ⟨rfl, rfl⟩
      rw [T.out]
      go_wp2_with fail
      refine (rValid_any _ _ _ hx).mono ?_
      rintro e w' ⟨rfl, rfl⟩
      rw [U.out]
      go_wp2
      go_ret2
      exact ⟨_, rfl, nil_rows _, Below.refl _ _⟩
    | true =>
      have VT := (vld_iff t).1 ht
      have VU := (vld_iff u).1 hu
      have b1 := VT.lo
      have b2 := VT.hi
      have b3 := VU.lo
      have b4 := VU.hi
      by_cases hl : t.length + u.length ≤ 4
      · rw [(sum_yes ht hu hl).1, (sum_yes ht hu hl).2]
        have T := Lib.hid ht
        have U := Lib.hid hu
        have hW : ∀ l ∈ t ++ u, 1 ≤ l.length ∧ l.length ≤ 12 := fun l h => by
          rcases List.mem_append.1 h with h | h
          · exact ⟨(VT.wave l h).1, (VT.wave l h).2.1⟩
          · exact ⟨(VU.wave l h).1, (VU.wave l h).2.1⟩
        have hlen : (t ++ u).length = t.length + u.length := List.length_append
        have GEt : ∀ k, k < t.length → (t ++ u).getD k [] = t.getD k [] := fun k hk => getD_app_l t u [] hk
        have GEu : ∀ k, k < u.length → (t ++ u).getD (t.length + k) [] = u.getD k [] := fun k hk => getD_app_r t u [] k
        obtain ⟨i0, hi0, hz0, hz1, hz2⟩ := info_parts Try.infoInts
        obtain ⟨j0, hj0, hy0, hy1, hy2⟩ := info_parts Try.infoInt
        obtain ⟨tb, to, rfl, hct⟩ := vq (by omega)
        obtain ⟨ub, uo, rfl, hcu⟩ := xq (by omega)
        generalize hs : t ++ u = s at *
        have HL := Lib.hid hlen
        have HW := Lib.hid hW
        clear ht hu hs hlen hW vq xq
        go_enter Try.func42, Try.ntmps42
        go_wp2_with fail
        refine (rValid_any _ _ _ hv).mono ?_
        rintro e w' ⟨rfl, rfl⟩
        rw [T.out]
        go_wp2_with fail
        refine (rValid_any _ _ _ hx).mono ?_
        rintro e w' ⟨rfl, rfl⟩
        rw [U.out]
        clear hv hx
        go_wp2
        go_loopw [6, 27] (fun o i wr => ∃ (k : Nat) (xs : List Value), k ≤ t.length ∧ i = .int .i64 k ∧ xs.length = k ∧ wr.ownsRow w.heap.size 34 1 o k xs ∧
            (∀ j, j < k → wr.ownsRow w.heap.size 3 1 (xs.getD j undef) (s.getD j []).length ((s.getD j []).map (Value.int .i64))) ∧ Below w.heap.size w wr)
          (fun _ i _ => t.length - (intOf i).toNat)
        case atStart => exact ⟨0, [], Nat.zero_le _, rfl, rfl, World.ownsRow_nil _ _ _ _, fun j hj => by omega, Below.refl _ _⟩
        case round =>
          obtain ⟨k, xs, hk, rfl, hxs, hown, hall, hbel⟩ := hrel
          have hsz := hbel.size
          have XL := Lib.hid hxs
          have HA := Lib.hid hall
          clear hxs hall
          by_cases hlt : k < t.length
          · obtain ⟨y, hy0, hi⟩ := hct k hlt
            have hw1 := (HW.out _ (getD_mem (show k < s.length by have := HL.out; omega))).1
            have hw2 := (HW.out _ (getD_mem (show k < s.length by have := HL.out; omega))).2
            have LKK := Lib.hid (GEt k hlt)
            generalize hlk : t.getD k [] = lk at hi
            have LK := Lib.hid hlk
            rw [GEt k hlt, hlk] at hw1 hw2
            clear hlk hct
            obtain ⟨yb, yo, yc, rfl, hic⟩ := ints_cell (hi.below hbel) (by omega)
            have NW := Lib.hid (ints_news hic (.cells #[] 3))
            have hy := keep_cell hbel hy0
            have hown0 := World.ownsRow_made (base := wr.heap.size) (e := 3) (size := 1) wr #[] 0 (Nat.le_refl _) (by decide) rfl
            clear hy0 hi hic
            go_wp2_with (first
              | (at_builtin; refine wpList_append_own _ rfl (.tmp 32) (.tmp 33) 34 rfl wr.heap.size 3 j0 (.int .i64 0) 1 8 Try.underlying34 hj0 hy0 hy1 hy2 rfl (by decide) _ _ _ rfl hown0 ⟨yb, yo, none⟩ lk.length yc (lk.map (Value.int .i64)) rfl (by simp) NW.out (int_vals_one lk) (by unfold maxLen; omega) (by omega) (by simp) ?_; intro ov w2 hov0 hgr0 _; have hb2 := clone_below hgr0; simp only [Nat.zero_add, List.nil_append] at hov0; have HS := mapped_step HA hown hbel hsz hov0 hb2; obtain ⟨oa, oc, rfl, hown2, hbel2, hsz2, hov', HA2⟩ := HS; clear hov0 hb2 hbel hown HA hy hown0 hgr0)
              | (at_builtin; refine wpList_append_own _ rfl (.tmp 31) (.tmp 35) 22 rfl w.heap.size 34 i0 (.slice none 0 0) 1 24 Try.underlying22 hi0 hz0 hz1 hz2 rfl (by decide) _ _ _ rfl (hown2.alloc _) ⟨w2.heap.size, 0, none⟩ 1 1 [.slice oa lk.length oc] rfl rfl (cell_one_new _ _ _) ?c2 ?c3 ?c4 ?c5 ?_))
            case c2 => first | rfl | (intro u hu; simp at hu; subst hu; rfl)
            case c3 => unfold maxLen; omega
            case c4 => omega
            case c5 => first | omega | (simp; omega)
            · intro v' w3 hown' hgrow _
              have R := below_append hbel2 hsz2 hown2 hgrow
              have HA3 : Hid (∀ j, j < k + 1 → w3.ownsRow w.heap.size 3 1 ((xs ++ [Value.slice oa lk.length oc]).getD j undef) (s.getD j []).length ((s.getD j []).map (Value.int .i64))) := fun j hj => by
                rcases Nat.lt_succ_iff_lt_or_eq.1 hj with h | rfl
                · rw [getD_snoc_lt _ _ _ (by rw [XL.out]; exact h)]; exact own_append (HA2.out j h) hown2 (by decide) hgrow
                · have e := getD_snoc_eq xs (.slice oa lk.length oc) undef
                  rw [XL.out] at e
                  rw [e, LKK.out, LK.out]; exact own_append hov' hown2 (by decide) hgrow
              clear hown2 hgrow hbel2 hov' HA2
              go_wp2
              go_roundw
              case rel => exact ⟨k + 1, xs ++ [.slice oa lk.length oc], by omega, by go_num, by simp [XL.out] <;> omega, hown', HA3.out, R⟩
              case measure => simp [intOf]; omega
          · have e : k = t.length := by omega
            subst e
            go_wp2
            go_loopw [6, 40] (fun o i wr => ∃ (k : Nat) (xs : List Value), k ≤ u.length ∧ i = .int .i64 k ∧ xs.length = t.length + k ∧ wr.ownsRow w.heap.size 34 1 o (t.length + k) xs ∧
                (∀ j, j < t.length + k → wr.ownsRow w.heap.size 3 1 (xs.getD j undef) (s.getD j []).length ((s.getD j []).map (Value.int .i64))) ∧ Below w.heap.size w wr)
              (fun _ i _ => u.length - (intOf i).toNat)
            case atStart => exact ⟨0, xs, Nat.zero_le _, rfl, XL.out, hown, HA.out, hbel⟩
            case round =>
              clear hbel hown HA XL hsz
              obtain ⟨k, xs, hk, rfl, hxs, hown, hall, hbel⟩ := hrel
              have hsz := hbel.size
              have XL := Lib.hid hxs
              have HA := Lib.hid hall
              clear hxs hall
              by_cases hlt : k < u.length
              · obtain ⟨y, hy0, hi⟩ := hcu k hlt
                have hw1 := (HW.out _ (getD_mem (show t.length + k < s.length by have := HL.out; omega))).1
                have hw2 := (HW.out _ (getD_mem (show t.length + k < s.length by have := HL.out; omega))).2
                have LKK := Lib.hid (GEu k hlt)
                generalize hlk : u.getD k [] = lk at hi
                have LK := Lib.hid hlk
                rw [GEu k hlt, hlk] at hw1 hw2
                clear hlk hcu
                obtain ⟨yb, yo, yc, rfl, hic⟩ := ints_cell (hi.below hbel) (by omega)
                have NW := Lib.hid (ints_news hic (.cells #[] 3))
                have hy := keep_cell hbel hy0
                have hown0 := World.ownsRow_made (base := wr.heap.size) (e := 3) (size := 1) wr #[] 0 (Nat.le_refl _) (by decide) rfl
                clear hy0 hi hic
                go_wp2_with (first
                  | (at_builtin; refine wpList_append_own _ rfl (.tmp 45) (.tmp 46) 34 rfl wr.heap.size 3 j0 (.int .i64 0) 1 8 Try.underlying34 hj0 hy0 hy1 hy2 rfl (by decide) _ _ _ rfl hown0 ⟨yb, yo, none⟩ lk.length yc (lk.map (Value.int .i64)) rfl (by simp) NW.out (int_vals_one lk) (by unfold maxLen; omega) (by omega) (by simp) ?_; intro ov w2 hov0 hgr0 _; have hb2 := clone_below hgr0; simp only [Nat.zero_add, List.nil_append] at hov0; have HS := mapped_step HA hown hbel hsz hov0 hb2; obtain ⟨oa, oc, rfl, hown2, hbel2, hsz2, hov', HA2⟩ := HS; clear hov0 hb2 hbel hown HA hy hown0 hgr0)
                  | (at_builtin; refine wpList_append_own _ rfl (.tmp 44) (.tmp 48) 22 rfl w.heap.size 34 i0 (.slice none 0 0) 1 24 Try.underlying22 hi0 hz0 hz1 hz2 rfl (by decide) _ _ _ rfl (hown2.alloc _) ⟨w2.heap.size, 0, none⟩ 1 1 [.slice oa lk.length oc] rfl rfl (cell_one_new _ _ _) ?c2 ?c3 ?c4 ?c5 ?_))
                case c2 => first | rfl | (intro u hu; simp at hu; subst hu; rfl)
                case c3 => unfold maxLen; omega
                case c4 => omega
                case c5 => first | omega | (simp; omega)
                · intro v' w3 hown' hgrow _
                  have R := below_append hbel2 hsz2 hown2 hgrow
                  have HA3 : Hid (∀ j, j < (t.length + k) + 1 → w3.ownsRow w.heap.size 3 1 ((xs ++ [Value.slice oa lk.length oc]).getD j undef) (s.getD j []).length ((s.getD j []).map (Value.int .i64))) := fun j hj => by
                    rcases Nat.lt_succ_iff_lt_or_eq.1 hj with h | rfl
                    · rw [getD_snoc_lt _ _ _ (by rw [XL.out]; exact h)]; exact own_append (HA2.out j h) hown2 (by decide) hgrow
                    · have e := getD_snoc_eq xs (.slice oa lk.length oc) undef
                      rw [XL.out] at e
                      rw [e, LKK.out, LK.out]; exact own_append hov' hown2 (by decide) hgrow
                  clear hown2 hgrow hbel2 hov' HA2
                  go_wp2
                  go_roundw
                  case rel => exact ⟨k + 1, xs ++ [.slice oa lk.length oc], by omega, by go_num, by simp [XL.out] <;> omega, hown', HA3.out, R⟩
                  case measure => simp [intOf]; omega
              · have e : k = u.length := by omega
                subst e
                go_wp2
                go_ret2
                have hL := HL.out
                exact ⟨_, rfl, own_rows (e := 34) (base := w.heap.size) (xs := xs) (by rw [hL]; exact hown) (by omega) (fun i h => own_ints (HA.out i (by omega)) (by have := (HW.out _ (getD_mem h)).2; omega)), hbel⟩
      · rw [(sum_big ht hu hl).1, (sum_big ht hu hl).2]
        have T := Lib.hid ht
        have U := Lib.hid hu
        clear ht hu
        go_enter Try.func42, Try.ntmps42
        go_wp2_with fail
        refine (rValid_any _ _ _ hv).mono ?_
        rintro e w' ⟨rfl, rfl⟩
        rw [T.out]
        go_wp2_with fail
        refine (rValid_any _ _ _ hx).mono ?_
        rintro e w' ⟨rfl, rfl⟩
        rw [U.out]
        go_wp2
        go_ret2
        exact ⟨_, rfl, nil_rows _, Below.refl _ _⟩

end Go.Proofs.Ytflhpnhehaokpaa

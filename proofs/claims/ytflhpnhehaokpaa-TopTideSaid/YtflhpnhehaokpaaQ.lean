/- Contracts: Sum of the program. -/
import Derived.Test.YtflhpnhehaokpaaP
namespace Go.Proofs.Ytflhpnhehaokpaa
open Go.RowKit

def sumE (t u : List (List Int)) : Int := if vld t && vld u then (if t.length + u.length ≤ 4 then 0 else 4) else 10
def sumT (t u : List (List Int)) : List (List Int) := if vld t && vld u then (if t.length + u.length ≤ 4 then t ++ u else []) else []

theorem sum_no1 {t u : List (List Int)} (h : vld t = false) : sumE t u = 10 ∧ sumT t u = [] := by simp [sumE, sumT, h]
theorem sum_no2 {t u : List (List Int)} (h : vld u = false) : sumE t u = 10 ∧ sumT t u = [] := by simp [sumE, sumT, h]
theorem sum_big {t u : List (List Int)} (h : vld t = true) (k : vld u = true) (hl : ¬ t.length + u.length ≤ 4) : sumE t u = 4 ∧ sumT t u = [] := by simp [sumE, sumT, h, k, hl]
theorem sum_yes {t u : List (List Int)} (h : vld t = true) (k : vld u = true) (hl : t.length + u.length ≤ 4) : sumE t u = 0 ∧ sumT t u = t ++ u := by simp [sumE, sumT, h, k, hl]


set_option maxHeartbeats 2000000 in
theorem tSum_any (v x : Value) (t u : List (List Int)) (w : World) (hv : RowsAt w v t) (hx : RowsAt w x u) :
    Calls Try.prog 39 #[v, x] w (GivesRE (sumT t u) (sumE t u) w) := by
  obtain ⟨va, vc, rfl, vq⟩ := id hv
  obtain ⟨xa, xc, rfl, xq⟩ := id hx
  clear vq xq
  cases ht : vld t with
  | false =>
    rw [(sum_no1 ht).1, (sum_no1 ht).2]
    have T := Lib.hid ht
    clear ht
    go_enter Try.func39, Try.ntmps39
    go_wp2_with fail
    refine (valid_any _ _ _ hv).mono ?_
    rintro e w' ⟨rfl, rfl⟩
    rw [T.out]
    go_wp2
    go_ret2
    exact ⟨_, rfl, nil_rows _, Below.refl _ _⟩
  | true =>
    cases hu : vld u with
    | false =>
      rw [(sum_no2 hu).1, (sum_no2 hu).2]
      have T := Lib.hid ht
      have U := Lib.hid hu
      clear ht hu
      go_enter Try.func39, Try.ntmps39
      go_wp2_with fail
      refine (valid_any _ _ _ hv).mono ?_
      rintro e w' ⟨rfl, rfl⟩
      rw [T.out]
      go_wp2_with fail
      refine (valid_any _ _ _ hx).mono ?_
      rintro e w' ⟨rfl, rfl⟩
      rw [U.out]
      go_wp2
      go_ret2
      exact ⟨_, rfl, nil_rows _, Below.refl _ _⟩
    | true =>
      have VT := (vld_iff t).1 ht
      have VU := (vld_iff u).1 hu
      have b1 := VT.lo
      have b2 := VT.hi
      have b3 := VU.lo
      have b4 := VU.hi
      by_cases hl : t.length + u.length ≤ 4
      · rw [(sum_yes ht hu hl).1, (sum_yes ht hu hl).2]
        have T := Lib.hid ht
        have U := Lib.hid hu
        have hl4 : ((t ++ u).length : Nat) ≤ 4 := by rw [List.length_append]; exact hl
        have hW : ∀ l ∈ t ++ u, 1 ≤ l.length ∧ l.length ≤ 12 := fun l h => by
          rcases List.mem_append.1 h with h | h
          · exact ⟨(VT.wave l h).1, (VT.wave l h).2.1⟩
          · exact ⟨(VU.wave l h).1, (VU.wave l h).2.1⟩
        have hlen : (t ++ u).length = t.length + u.length := List.length_append
        obtain ⟨i0, hi0, hz0, hz1, hz2⟩ := info_parts Try.infoInts
        have hal : Below w.heap.size w (w.alloc (.cells #[.slice va t.length vc, .slice xa u.length xc] 22)) := (Below.refl _ w).alloc (Nat.le_refl _) _
        have HC := Lib.hid (concat_any w.heap.size _ _ t u _ (hv.below hal) (hx.below hal) b1 b3 (by omega) (by simp) (by simp))
        generalize hs : t ++ u = s at *
        have HL := Lib.hid hlen
        have HW := Lib.hid hW
        clear ht hu hs hlen hW
        go_enter Try.func39, Try.ntmps39
        go_wp2_with fail
        refine (valid_any _ _ _ hv).mono ?_
        rintro e w' ⟨rfl, rfl⟩
        rw [T.out]
        go_wp2_with fail
        refine (valid_any _ _ _ hx).mono ?_
        rintro e w' ⟨rfl, rfl⟩
        rw [U.out]
        go_wp2_with (go_at_call 80; refine HC.out.mono ?_; rintro e w1 ⟨cv, rfl, hcv, hb1⟩; obtain ⟨ca, cc, rfl, hcl, hcq⟩ := hcv)
        have hbel1 := below_trans hal hb1
        obtain ⟨cb, co, rfl, hcc⟩ := hcq (by have := HL.out; omega)
        clear hcq hb1 hv hx
        go_loopw [6, 30] (fun o i wr => ∃ (k : Nat) (xs : List Value), k ≤ s.length ∧ i = .int .i64 k ∧ xs.length = k ∧ wr.ownsRow w1.heap.size 34 1 o k xs ∧
            (∀ j, j < k → wr.ownsRow w1.heap.size 3 1 (xs.getD j undef) (s.getD j []).length ((s.getD j []).map (Value.int .i64))) ∧ Below w1.heap.size w1 wr)
          (fun _ i _ => s.length - (intOf i).toNat)
        case atStart => exact ⟨0, [], Nat.zero_le _, rfl, rfl, World.ownsRow_nil _ _ _ _, fun j hj => by omega, Below.refl _ _⟩
        case round =>
          obtain ⟨k, xs, hk, rfl, hxs, hown, hall, hbel⟩ := hrel
          have hsz := hbel.size
          have XL := Lib.hid hxs
          have HA := Lib.hid hall
          clear hxs hall
          by_cases hlt : k < s.length
          · obtain ⟨y, hy0, hi⟩ := hcc k hlt
            have hw1 := (HW.out _ (getD_mem hlt)).1
            have hw2 := (HW.out _ (getD_mem hlt)).2
            generalize hlk : s.getD k [] = lk at hi hw1 hw2
            have LK := Lib.hid hlk
            clear hlk
            obtain ⟨ya, yc, rfl, hyr⟩ := id hi
            clear hyr hcc
            have hy := keep_cell hbel hy0
            have hiw := hi.below hbel
            clear hy0 hi
            go_wp2_with (first
              | (go_at_call 81; refine (clone_any _ _ _ hiw (by omega) (by omega)).mono ?_; rintro e w2 ⟨ov, rfl, hov, hb2⟩; have HS := mapped_step HA hown hbel hsz hov hb2; obtain ⟨oa, oc, rfl, hown2, hbel2, hsz2, hov', HA2⟩ := HS; clear hov hb2 hbel hown HA hy hiw)
              | (at_builtin; refine wpList_append_own _ rfl _ _ 22 rfl w1.heap.size 34 i0 (.slice none 0 0) 1 24 Try.underlying22 hi0 hz0 hz1 hz2 rfl (by decide) _ _ _ rfl (hown2.alloc _) ⟨w2.heap.size, 0, none⟩ 1 1 [.slice oa lk.length oc] rfl rfl (cell_one_new _ _ _) ?c2 ?c3 ?c4 ?c5 ?_))
            case c2 => first | rfl | (intro u hu; simp at hu; subst hu; rfl)
            case c3 => unfold maxLen; omega
            case c4 => omega
            case c5 => first | omega | (simp; omega)
            · intro v' w3 hown' hgrow _
              have R := below_append hbel2 hsz2 hown2 hgrow
              have HA3 : Hid (∀ j, j < k + 1 → w3.ownsRow w1.heap.size 3 1 ((xs ++ [Value.slice oa lk.length oc]).getD j undef) (s.getD j []).length ((s.getD j []).map (Value.int .i64))) := fun j hj => by
                rcases Nat.lt_succ_iff_lt_or_eq.1 hj with h | rfl
                · rw [getD_snoc_lt _ _ _ (by rw [XL.out]; exact h)]; exact own_append (HA2.out j h) hown2 (by decide) hgrow
                · have e := getD_snoc_eq xs (.slice oa lk.length oc) undef
                  rw [XL.out] at e
                  rw [e, LK.out]; exact own_append hov' hown2 (by decide) hgrow
              clear hown2 hgrow hbel2 hov' HA2
              go_wp2
              go_roundw
              case rel => exact ⟨k + 1, xs ++ [.slice oa lk.length oc], by omega, by go_num, by simp [XL.out], hown', HA3.out, R⟩
              case measure => simp [intOf]; omega
          · have e : k = s.length := by omega
            subst e
            go_wp2
            go_ret2
            exact ⟨_, rfl, own_rows (e := 34) (base := w1.heap.size) (xs := xs) hown (by omega) (fun i h => own_ints (HA.out i h) (by have := (HW.out _ (getD_mem h)).2; omega)), below_trans hbel1 hbel⟩
      · rw [(sum_big ht hu hl).1, (sum_big ht hu hl).2]
        have T := Lib.hid ht
        have U := Lib.hid hu
        clear ht hu
        go_enter Try.func39, Try.ntmps39
        go_wp2_with fail
        refine (valid_any _ _ _ hv).mono ?_
        rintro e w' ⟨rfl, rfl⟩
        rw [T.out]
        go_wp2_with fail
        refine (valid_any _ _ _ hx).mono ?_
        rintro e w' ⟨rfl, rfl⟩
        rw [U.out]
        go_wp2
        go_ret2
        exact ⟨_, rfl, nil_rows _, Below.refl _ _⟩

end Go.Proofs.Ytflhpnhehaokpaa

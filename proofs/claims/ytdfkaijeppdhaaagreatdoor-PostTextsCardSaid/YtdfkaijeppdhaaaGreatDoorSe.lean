/- Contracts of the reference: New, Count, Seen, begins (Post). -/
import Derived.Test.YtdfkaijeppdhaaaGreatDoorRs
import Derived.Test.YtdfkaijeppdhaaaGreatDoorEa
import Derived.Test.YtdfkaijeppdhaaaGreatDoorFc
namespace Go.Proofs.YtdfkaijeppdhaaaGreatDoor
open Go.RowKit Go.Shelf

theorem rnew_any (n : Int) (w : World) : Calls Tryz.prog 46 #[.int .i64 n] w fun e w' => e = .returned (.pointer (some ⟨w.heap.size, 0, none⟩)) ∧
    w' = w.alloc (.cells #[.int .i64 n, .slice none 0 0, .slice none 0 0, .slice none 0 0, .slice none 0 0] 54) := by
  go_enter Tryz.func46, Tryz.ntmps46
  go_wp2
  go_ret
  exact ⟨rfl, rfl⟩
theorem lastC_take {i : Nat} {l : List Ent} (h : ListOk i l) {k : Nat} (hk : k < l.length) : lastC (l.take (k + 1)) = eCnt (l.getD k noE) ∧ (lastC (l.take k) < eCnt (l.getD k noE)) := by
  have e : l.take (k + 1) = l.take k ++ [l[k]] := List.take_succ_eq_append_getElem hk
  have eg : l.getD k noE = l[k] := by rw [List.getD_eq_getElem?_getD, List.getElem?_eq_getElem hk]; rfl
  rw [eg]
  refine ⟨by rw [e, lastC_append], ?_⟩
  cases k with
  | zero =>
    have := (h.own 0 hk).2.2.1
    show (0 : Int) < _
    omega
  | succ j =>
    have e2 : l.take (j + 1) = l.take j ++ [l[j]] := List.take_succ_eq_append_getElem (by omega)
    rw [e2, lastC_append]
    exact List.pairwise_iff_getElem.1 h.asc j (j + 1) (by omega) hk (by omega)
set_option maxRecDepth 100000 in
set_option maxHeartbeats 4000000 in
theorem rcount_any (P : Nat) (n : Int) (vs : Nat → Value) (b : Book) (w : World) (h : RfAt w P n vs b) (hok : BookOk b) :
    Calls Tryz.prog 61 #[.pointer (some ⟨P, 0, none⟩)] w fun e w' => e = .returned (.int .i64 (cntB b)) ∧ w = w' := by
  have H := Lib.hid h
  have HOK := Lib.hid hok
  clear h hok
  go_enter Tryz.func61, Tryz.ntmps61
  go_wp2
  go_loopw [3, 4] (fun n i wr => ∃ k : Nat, k ≤ 4 ∧ i = .int .i64 k ∧ n = .int .i64 (cntTo b k) ∧ wr = w) (fun _ i _ => 4 - (intOf i).toNat)
  case atStart => exact ⟨0, by omega, rfl, rfl, rfl⟩
  case round =>
    obtain ⟨i, hi, rfl, rfl, rfl⟩ := hrel
    by_cases hlt : i < 4
    · have hlt2 : (i : Int) < 4 := by omega
      have c1 := H.out.cell hlt
      have HLO := Lib.hid (HOK.out i hlt)
      obtain ⟨a, cap, hv⟩ := (H.out.2 i hlt).shape
      have HEN := Lib.hid (H.out.2 i hlt)
      rw [hv] at c1 HEN
      have HS := Lib.hid (show cntTo b (i + 1) = max (cntTo b i) (lastC (b i)) from rfl)
      have HPOS := Lib.hid (cntTo_pos b i)
      generalize b i = l at *
      generalize cntTo b i = m at *
      obtain ⟨len, hlen⟩ : ∃ len, len = l.length := ⟨_, rfl⟩
      have HLEN := Lib.hid hlen
      rw [← hlen] at c1
      have hl60 : len ≤ 60 := by rw [hlen]; exact HLO.out.len
      clear hlen hv
      obtain ⟨wo, hwo⟩ : ∃ wo, wo = wr := ⟨_, rfl⟩
      subst hwo
      go_wp2
      go_loopw [3, 5] (fun n j wr => ∃ k : Nat, k ≤ len ∧ j = .int .i64 k ∧ n = .int .i64 (max m (lastC (l.take k))) ∧ wr = wo) (fun _ j _ => len - (intOf j).toNat)
      case atStart => exact ⟨0, by omega, rfl, by rw [List.take_zero, lastC_nil]; have := HPOS.out; congr 1; omega, rfl⟩
      case round =>
        obtain ⟨k, hk, rfl, rfl, rfl⟩ := hrel
        by_cases hlk : k < len
        · have hlk2 : (k : Int) < (len : Int) := by omega
          obtain ⟨g, off, cap2, hv2, _, _, d3, _⟩ := HEN.out.entry (k := k) (by rw [← HLEN.out]; exact hlk)
          simp only [Value.slice.injEq] at hv2
          obtain ⟨rfl, _, rfl⟩ := hv2
          have HT := Lib.hid (lastC_take HLO.out (k := k) (by rw [← HLEN.out]; exact hlk))
          generalize l.getD k noE = ex at *
          have HM : Hid (max (max m (lastC (l.take k))) (eCnt ex) = max m (lastC (l.take (k + 1)))) := Lib.hid (by
            have h1 := HT.out.1
            have h2 := HT.out.2
            rw [h1]
            omega)
          generalize max m (lastC (l.take k)) = mm at *
          go_wp2
          go_roundw
          case rel => exact ⟨k + 1, by omega, by go_num, by rw [HM.out], trivial⟩
          case measure => simp [intOf]; omega
        · obtain rfl : k = len := by omega
          have HTA : Hid (l.take k = l) := Lib.hid (List.take_of_length_le (by rw [← HLEN.out]; exact Nat.le_refl _))
          have HM : Hid (max m (lastC (l.take k)) = cntTo b (i + 1)) := Lib.hid (by rw [HTA.out, HS.out])
          generalize max m (lastC (l.take k)) = mm at *
          go_wp2
          go_roundw
          case rel => exact ⟨i + 1, by omega, by go_num, by rw [HM.out], trivial⟩
          case measure => simp [intOf]; omega
    · have e : i = 4 := by omega
      subst e
      go_wp2
      go_ret
      exact ⟨by rw [cntB_to]; rfl, rfl⟩

/-! ### begins -/
theorem prefix_iff {l m : List Ent} : l <+: m ↔ l.length ≤ m.length ∧ l = m.take l.length := by
  constructor
  · intro h
    exact ⟨h.length_le, by rw [← List.prefix_iff_eq_take]; exact h⟩
  · rintro ⟨_, h⟩
    rw [List.prefix_iff_eq_take]; exact h
set_option maxRecDepth 100000 in
set_option maxHeartbeats 4000000 in
theorem rbegins_any (v v2 : Value) (l m : List Ent) (w : World) (h1 : EntsAt w v l) (h2 : EntsAt w v2 m) (hl : l.length ≤ 1000) :
    Calls Tryz.prog 58 #[v, v2] w fun e w' => e = .returned (.bool (decide (l <+: m))) ∧ Below w.heap.size w w' := by
  have H1 := Lib.hid h1
  have H2 := Lib.hid h2
  obtain ⟨a1, c1, rfl⟩ := h1.shape
  obtain ⟨a2, c2, rfl⟩ := h2.shape
  obtain ⟨n, hn⟩ : ∃ n, n = l.length := ⟨_, rfl⟩
  obtain ⟨n2, hn2⟩ : ∃ n, n = m.length := ⟨_, rfl⟩
  have HN := Lib.hid hn
  have HN2 := Lib.hid hn2
  rw [← hn, ← hn2]
  rw [← hn] at hl
  clear h1 h2 hn hn2
  go_enter Tryz.func58, Tryz.ntmps58
  go_wp2
  go_loopw [5] (fun i wr => ∃ k : Nat, k ≤ n ∧ k ≤ n2 ∧ i = .int .i64 k ∧ Hid (l.take k = m.take k) ∧ Hid (Below w.heap.size w wr)) (fun i _ => n - (intOf i).toNat)
  case atStart => exact ⟨0, by omega, by omega, rfl, Lib.hid (by simp), Lib.hid (Below.refl _ _)⟩
  case round =>
    obtain ⟨k, hk, hk2, rfl, HT, HB⟩ := hrel
    by_cases hlt : k < n
    · have hlt2 : (k : Int) < (n : Int) := by omega
      by_cases hlm : k < n2
      · have hlm2 : (k : Int) < (n2 : Int) := by omega
        have hkl : k < l.length := by rw [← HN.out]; exact hlt
        have hkm : k < m.length := by rw [← HN2.out]; exact hlm
        obtain ⟨g, o, cc, hv, p1, p2, p3, p4⟩ := (H1.out.below HB.out).entry hkl
        obtain ⟨g', o', cc', hv', q1, q2, q3, q4⟩ := (H2.out.below HB.out).entry hkm
        simp only [Value.slice.injEq] at hv hv'
        obtain ⟨rfl, _, rfl⟩ := hv
        obtain ⟨rfl, _, rfl⟩ := hv'
        have HTN := Lib.hid (take_nextE hkl hkm HT.out)
        obtain ⟨x, hx⟩ : ∃ x : Ent, x = l.getD k noE := ⟨_, rfl⟩
        obtain ⟨y, hy⟩ : ∃ y : Ent, y = m.getD k noE := ⟨_, rfl⟩
        rw [← hx] at p1 p2 p3 p4
        rw [← hy] at q1 q2 q3 q4
        rw [← hx, ← hy] at HTN
        have HX := Lib.hid hx
        have HY := Lib.hid hy
        have hne := neq_run x y
        clear hx hy
        by_cases hxy : x = y
        · have HT2 := Lib.hid (HTN.out hxy)
          have hb : eqE x y = true := (eqE_iff x y).2 hxy
          rw [hb] at hne
          clear hxy hb HTN
          go_wp2
          go_quiet (fail)
          have HB2 := Lib.hid (belowD HB.out nq)
          go_wp2
          go_roundw
          case rel => exact ⟨k + 1, by omega, by omega, by go_num, HT2, HB2⟩
          case measure => simp [intOf]; omega
        · have hb : eqE x y = false := by rw [Bool.eq_false_iff]; exact fun h => hxy ((eqE_iff x y).1 h)
          have HD : Hid (decide (l <+: m) = false) := Lib.hid (by
            rw [decide_eq_false]
            intro e
            apply hxy
            obtain ⟨r, rfl⟩ := e
            rw [HX.out, HY.out, List.getD_eq_getElem?_getD, List.getD_eq_getElem?_getD, List.getElem?_append_left hkl])
          rw [hb] at hne
          clear hxy hb HTN
          go_wp2
          go_quiet (fail)
          have HB2 := Lib.hid (belowD HB.out nq)
          go_wp2
          go_ret
          exact ⟨by rw [HD.out]; rfl, HB2.out⟩
      · obtain rfl : k = n2 := by omega
        have hlm2 : ¬ (k : Int) < (k : Int) := by omega
        have hle : ¬ (n : Int) ≤ (k : Int) := by omega
        have HD : Hid (decide (l <+: m) = false) := Lib.hid (by
          rw [decide_eq_false]
          intro e
          have := e.length_le
          rw [← HN.out, ← HN2.out] at this
          omega)
        go_wp2
        go_ret
        exact ⟨by rw [HD.out]; rfl, HB.out⟩
    · obtain rfl : k = n := by omega
      have hlt2 : ¬ (k : Int) < (k : Int) := by omega
      have hle : (k : Int) ≤ (n2 : Int) := by omega
      have HD : Hid (decide (l <+: m) = true) := Lib.hid (by
        rw [decide_eq_true_iff, prefix_iff]
        refine ⟨by rw [← HN.out, ← HN2.out]; exact hk2, ?_⟩
        have h9 := HT.out
        rw [List.take_of_length_le (by rw [← HN.out]; exact Nat.le_refl _)] at h9
        rw [← HN.out]; exact h9)
      go_wp2
      go_ret
      exact ⟨by rw [HD.out]; rfl, HB.out⟩
end Go.Proofs.YtdfkaijeppdhaaaGreatDoor

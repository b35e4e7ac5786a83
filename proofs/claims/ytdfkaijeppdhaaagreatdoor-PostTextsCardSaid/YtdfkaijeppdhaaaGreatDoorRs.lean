/- Contract of the reference: SameEntries. -/
import Derived.Test.YtdfkaijeppdhaaaGreatDoorRk
import Derived.BigQuiet
import Derived.Deep.QuietTactic
namespace Go.Proofs.YtdfkaijeppdhaaaGreatDoor
open Go.RowKit Go.Shelf

theorem neq_run (x y : Ent) (W : World) : (binOp .neq 43 (.agg #[.int .i64 (ePost x), .int .i64 (eNum x), .int .i64 (eCnt x), .string (eLine x)]) (.agg #[.int .i64 (ePost y), .int .i64 (eNum y), .int .i64 (eCnt y), .string (eLine y)])).run Tryz.prog W = .ok (.bool (!eqE x y)) W := neqE.1 x y W
theorem take_nextE {l m : List Ent} {k : Nat} (hl : k < l.length) (hm : k < m.length) (h : l.take k = m.take k) (he : l.getD k noE = m.getD k noE) : l.take (k + 1) = m.take (k + 1) := by
  rw [List.getD_eq_getElem?_getD, List.getElem?_eq_getElem hl, List.getD_eq_getElem?_getD, List.getElem?_eq_getElem hm] at he
  rw [List.take_succ_eq_append_getElem hl, List.take_succ_eq_append_getElem hm, h]
  exact congrArg (fun z => m.take k ++ [z]) he
set_option maxRecDepth 100000 in
set_option maxHeartbeats 4000000 in
theorem sameE_any (v v2 : Value) (l m : List Ent) (w : World) (h1 : EntsAt w v l) (h2 : EntsAt w v2 m) (hl : l.length ≤ 1000) :
    Calls Tryz.prog 31 #[v, v2] w fun e w' => e = .returned (.bool (decide (l = m))) ∧ Below w.heap.size w w' := by
  have H1 := Lib.hid h1
  have H2 := Lib.hid h2
  obtain ⟨a1, c1, rfl⟩ := h1.shape
  obtain ⟨a2, c2, rfl⟩ := h2.shape
  obtain ⟨n, hn⟩ : ∃ n, n = l.length := ⟨_, rfl⟩
  obtain ⟨n2, hn2⟩ : ∃ n, n = m.length := ⟨_, rfl⟩
  have HN := Lib.hid hn
  have HN2 := Lib.hid hn2
  rw [← hn, ← hn2]
  rw [← hn] at hl
  clear h1 h2 hn hn2
  by_cases he : n = n2
  · subst he
    go_enter Tryz.func31, Tryz.ntmps31
    go_wp2
    go_loopw [5] (fun i wr => ∃ k : Nat, k ≤ n ∧ i = .int .i64 k ∧ Hid (l.take k = m.take k) ∧ Hid (Below w.heap.size w wr)) (fun i _ => n - (intOf i).toNat)
    case atStart => exact ⟨0, by omega, rfl, Lib.hid (by simp), Lib.hid (Below.refl _ _)⟩
    case round =>
      obtain ⟨k, hk, rfl, HT, HB⟩ := hrel
      by_cases hlt : k < n
      · have hlt2 : (k : Int) < (n : Int) := by omega
        have hkl : k < l.length := by rw [← HN.out]; exact hlt
        have hkm : k < m.length := by rw [← HN2.out]; exact hlt
        obtain ⟨g, o, cc, hv, p1, p2, p3, p4⟩ := (H1.out.below HB.out).entry hkl
        obtain ⟨g', o', cc', hv', q1, q2, q3, q4⟩ := (H2.out.below HB.out).entry hkm
        simp only [Value.slice.injEq] at hv hv'
        obtain ⟨rfl, _, rfl⟩ := hv
        obtain ⟨rfl, _, rfl⟩ := hv'
        have HTN := Lib.hid (take_nextE hkl hkm HT.out)
        obtain ⟨x, hx⟩ : ∃ x : Ent, x = l.getD k noE := ⟨_, rfl⟩
        obtain ⟨y, hy⟩ : ∃ y : Ent, y = m.getD k noE := ⟨_, rfl⟩
        rw [← hx] at p1 p2 p3 p4
        rw [← hy] at q1 q2 q3 q4
        rw [← hx, ← hy] at HTN
        have HX := Lib.hid hx
        have HY := Lib.hid hy
        have hne := neq_run x y
        clear hx hy
        by_cases hxy : x = y
        · have HT2 := Lib.hid (HTN.out hxy)
          have hb : eqE x y = true := (eqE_iff x y).2 hxy
          rw [hb] at hne
          clear hxy hb HTN
          go_wp2
          go_quiet (fail)
          have HB2 := Lib.hid (belowD HB.out nq)
          go_wp2
          go_roundw
          case rel => exact ⟨k + 1, by omega, by go_num, HT2, HB2⟩
          case measure => simp [intOf]; omega
        · have hb : eqE x y = false := by rw [Bool.eq_false_iff]; exact fun h => hxy ((eqE_iff x y).1 h)
          have HD : Hid (decide (l = m) = false) := Lib.hid (by
            rw [decide_eq_false]
            intro e
            apply hxy
            rw [HX.out, HY.out, e])
          rw [hb] at hne
          clear hxy hb HTN
          go_wp2
          go_quiet (fail)
          have HB2 := Lib.hid (belowD HB.out nq)
          go_wp2
          go_ret
          exact ⟨by rw [HD.out]; rfl, HB2.out⟩
      · obtain rfl : k = n := by omega
        have HD : Hid (decide (l = m) = true) := Lib.hid (by
          rw [decide_eq_true_iff]
          have h9 := HT.out
          rw [List.take_of_length_le (by rw [← HN.out]; exact Nat.le_refl _), List.take_of_length_le (by rw [← HN2.out]; exact Nat.le_refl _)] at h9
          exact h9)
        go_wp2
        go_ret
        exact ⟨by rw [HD.out]; rfl, HB.out⟩
  · have hb : ((n : Int) == (n2 : Int)) = false := by rw [beq_eq_false_iff_ne]; omega
    have HD : Hid (decide (l = m) = false) := Lib.hid (by
      rw [decide_eq_false]
      intro e
      apply he
      rw [HN.out, HN2.out, e])
    go_enter Tryz.func31, Tryz.ntmps31
    go_wp2
    go_ret
    exact ⟨by rw [HD.out]; rfl, Below.refl _ _⟩
end Go.Proofs.YtdfkaijeppdhaaaGreatDoor

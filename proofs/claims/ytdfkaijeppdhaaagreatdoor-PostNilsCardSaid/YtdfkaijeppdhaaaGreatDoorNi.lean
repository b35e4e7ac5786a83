/- The law PostNils. -/
import Derived.Test.YtdfkaijeppdhaaaGreatDoorNa
import Derived.Test.YtdfkaijeppdhaaaGreatDoorLb
namespace Go.Proofs.YtdfkaijeppdhaaaGreatDoor
open Go.RowKit Go.Shelf

theorem below_k {a b c : World} {n : Nat} (h : Below n a b) (k : Below b.heap.size b c) (hn : n ≤ b.heap.size) : Below n a c := h.trans (k.mono hn)
set_option maxRecDepth 100000 in
set_option maxHeartbeats 8000000 in
theorem PostNils_walk (line : ByteArray) (a b c d : Int) (w : World) (_hs : line.size ≤ maxLen) (hV : Vars w) : Calls Tryz.prog 13 #[.string line, .agg #[.int .i64 a, .int .i64 b, .int .i64 c, .int .i64 d]] w (BoolPost true w) := by
  have HVR := Lib.hid hV
  have hb0 : Below w.heap.size w (w.alloc (.cells #[.int .i64 a, .int .i64 b, .int .i64 c, .int .i64 d] 34)) := (Below.refl _ _).alloc (Nat.le_refl _) _
  have hc0 : (w.alloc (.cells #[.int .i64 a, .int .i64 b, .int .i64 c, .int .i64 d] 34)).heap[w.heap.size]? = some (.cells #[.int .i64 a, .int .i64 b, .int .i64 c, .int .i64 d] 34 (0, 0)) := World.alloc_heap_new w _
  obtain ⟨w0, hw0⟩ : ∃ w0, w0 = w.alloc (.cells #[.int .i64 a, .int .i64 b, .int .i64 c, .int .i64 d] 34) := ⟨_, rfl⟩
  rw [← hw0] at hb0 hc0
  have hz0 : w0.heap.size = w.heap.size + 1 := by rw [hw0]; simp
  have HB0 := Lib.hid hb0
  have HC0 := Lib.hid hc0
  have HW0 := Lib.hid hw0
  clear hw0 hV hb0 hc0
  by_cases hlen : 1000 < line.size
  · have hl : (1000 : Int) < (line.size : Int) := by omega
    go_enter Tryz.func13, Tryz.ntmps13
    go_wp2_with fail
    rw [← HW0.out]
    refine (sane_any w0 (HVR.out.below HB0.out)).mono ?_
    rintro e w' ⟨rfl, hb⟩
    go_wp2
    go_ret
    exact ⟨rfl, below_trans HB0.out hb⟩
  · have hl : ¬ (1000 : Int) < (line.size : Int) := by omega
    have hs2 : line.size ≤ 1000000 := by omega
    have HP0 : Hid (PsL w0.heap.size w0 []) := Lib.hid (PsL.nil (HVR.out.below HB0.out))
    have heq : ∀ W, (binOp .neq 34 (.agg #[.int .i64 0, .int .i64 0, .int .i64 0, .int .i64 0]) (.agg #[.int .i64 0, .int .i64 0, .int .i64 0, .int .i64 0])).run Tryz.prog W = .ok (.bool false) W := fun W => by kernel_rfl
    have HZ0 := Lib.hid hz0
    clear hz0 hlen
    go_enter Tryz.func13, Tryz.ntmps13
    go_wp2_with fail
    rw [← HW0.out]
    refine (new_l HP0.out 2 (by omega)).mono ?_
    rintro e w1 ⟨p, rfl, hA, hK⟩
    have HK1 := Lib.hid (Kin.below hK (Nat.le_refl _))
    obtain ⟨F, hp1, _, _⟩ := PsAt.post hA (i := 0) (by show 0 < 1; omega)
    obtain ⟨w2, hw2⟩ : ∃ w2, w2 = (w1.alloc (.cells #[.pointer none, .int .i64 0] 81)).alloc (.cells #[.pointer none, .pointer (some ⟨w1.heap.size, 0, none⟩)] 33) := ⟨_, rfl⟩
    have hb2 : Below w1.heap.size w1 w2 := by rw [hw2]; exact ((Below.refl _ _).alloc (Nat.le_refl _) _).alloc (by simp) _
    have hc2 : w2.heap[w1.heap.size]? = some (.cells #[.pointer none, .int .i64 0] 81 (0, 0)) := by rw [hw2]; exact (Below.heap_alloc _ _ _ (by simp)).trans (World.alloc_heap_new w1 _)
    have hr2 : w2.heap[w1.heap.size + 1]? = some (.cells #[.pointer none, .pointer (some ⟨w1.heap.size, 0, none⟩)] 33 (0, 0)) := by
      have := World.alloc_heap_new (w1.alloc (.cells #[.pointer none, .int .i64 0] 81)) (.cells #[.pointer none, .pointer (some ⟨w1.heap.size, 0, none⟩)] 33)
      rw [World.size_alloc] at this
      rw [hw2]; exact this
    have HP2 := Lib.hid (hp1.below hb2)
    have HB02 := Lib.hid (below_trans HB0.out (below_trans HK1.out hb2))
    have HC2 := Lib.hid hc2
    have HR2 := Lib.hid hr2
    have HC02 := Lib.hid (((HK1.out.trans (hb2.mono HK1.out.size)).block w.heap.size (by have := HZ0.out; omega)).trans HC0.out)
    have HW2 := Lib.hid hw2
    clear hw2 hb2 hc2 hr2 hp1 hA hK
    go_wp2_with fail
    rw [← HW2.out]
    go_loopw [8] (fun i wr => ∃ k : Nat, k ≤ 2 ∧ i = .int .i64 k ∧ Below w2.heap.size w2 wr) (fun i _ => 2 - (intOf i).toNat)
    case atStart => exact ⟨0, Nat.zero_le _, rfl, Below.refl _ _⟩
    case round =>
      obtain ⟨k, hk, rfl, hb⟩ := hrel
      have HB := Lib.hid hb
      clear hb
      by_cases hlt : k < 2
      · have hlt2 : (k : Int) < 2 := by omega
        obtain ⟨v, hv, hnp⟩ : ∃ v, w2.cell? ⟨w1.heap.size + 1, k, none⟩ = some v ∧ NoPost w2 v := by
          rcases (show k = 0 ∨ k = 1 by omega) with rfl | rfl
          · exact ⟨_, heap_cell HR2.out rfl, .inl rfl⟩
          · exact ⟨_, heap_cell HR2.out rfl, .inr ⟨_, rfl, HC2.out⟩⟩
        have c0 := keep_cell HB.out hv
        have HNP := Lib.hid (hnp.below HB.out)
        have HPR := Lib.hid (HP2.out.below HB.out)
        have d0 := keep_cell HB.out (heap_cell (j := 0) HC02.out rfl)
        have d1 := keep_cell HB.out (heap_cell (j := 1) HC02.out rfl)
        have d2 := keep_cell HB.out (heap_cell (j := 2) HC02.out rfl)
        have d3 := keep_cell HB.out (heap_cell (j := 3) HC02.out rfl)
        clear hnp hv
        go_wp2_with fail
        refine (do_none v line wr HNP.out).mono ?_
        rintro e w' ⟨rfl, rfl⟩
        go_wp2_with fail
        refine (ask_none v line wr HNP.out).mono ?_
        rintro e w' ⟨rfl, rfl⟩
        unfold emp
        go_wp2_with fail
        refine (join_none v _ wr HNP.out).mono ?_
        rintro e w' ⟨rfl, rfl⟩
        go_wp2_with fail
        refine (join_none2 _ _ _ _ v wr HPR.out HNP.out).mono ?_
        rintro e w' ⟨rfl, rfl⟩
        go_wp2_with fail
        refine (hear_none v line wr HNP.out).mono ?_
        rintro e w' ⟨rfl, rfl⟩
        go_wp2_with fail
        refine (number_none v wr HNP.out).mono ?_
        rintro e w' ⟨rfl, rfl⟩
        go_wp2_with fail
        refine (count_none v wr HNP.out).mono ?_
        rintro e w' ⟨rfl, rfl⟩
        go_wp2_with fail
        refine (book_none v wr HNP.out).mono ?_
        rintro e w3 ⟨lv, rfl, hl3, _, hb3⟩
        obtain ⟨la, lc, rfl⟩ := own_shape hl3
        have HN3 := Lib.hid (HNP.out.below hb3)
        have HP3 := Lib.hid (HPR.out.below hb3)
        have HB3 := Lib.hid (below_trans HB.out hb3)
        have e0 := keep_cell hb3 d0
        have e1 := keep_cell hb3 d1
        have e2 := keep_cell hb3 d2
        have e3 := keep_cell hb3 d3
        clear hl3 hb3
        go_wp2_with fail
        refine (text_none v w3 HN3.out).mono ?_
        rintro e w' ⟨rfl, rfl⟩
        unfold emp
        go_wp2_with fail
        refine (since_none v a b c d w3 HN3.out).mono ?_
        rintro e w4 ⟨lv, rfl, hl4, _, hb4⟩
        obtain ⟨la4, lc4, rfl⟩ := own_shape hl4
        have HN4 := Lib.hid (HN3.out.below hb4)
        have HP4 := Lib.hid (HP3.out.below hb4)
        have HB4 := Lib.hid (below_trans HB3.out hb4)
        clear hl4 hb4
        go_wp2_with fail
        refine (seen_none v w4 HN4.out).mono ?_
        rintro e w5 ⟨rfl, hb5⟩
        have HN5 := Lib.hid (HN4.out.below hb5)
        have HP5 := Lib.hid (HP4.out.below hb5)
        have HB5 := Lib.hid (below_trans HB4.out hb5)
        clear hb5
        go_wp2_with fail
        refine (copy_none v w5 HN5.out).mono ?_
        rintro e w' ⟨rfl, rfl⟩
        go_wp2_with fail
        refine (same_none_post v _ _ _ _ w5 HN5.out HP5.out).mono ?_
        rintro e w' ⟨rfl, rfl⟩
        go_wp2_with fail
        refine (same_post_none v _ _ _ _ w5 HN5.out HP5.out).mono ?_
        rintro e w' ⟨rfl, rfl⟩
        go_wp2_with fail
        refine (same_none_none v _ w5 HN5.out (.inl rfl)).mono ?_
        rintro e w' ⟨rfl, rfl⟩
        go_wp2
        go_roundw
        case rel => exact ⟨k + 1, by omega, by go_num, HB5.out⟩
        case measure => simp [intOf]; omega
      · have HBE := Lib.hid (below_trans HB02.out HB.out)
        have hlt2 : ¬ (k : Int) < 2 := by omega
        go_wp2_with fail
        refine (sane_any _ (HVR.out.below HBE.out)).mono ?_
        rintro e w6 ⟨rfl, hb6⟩
        go_wp2
        go_ret
        exact ⟨rfl, below_trans HBE.out hb6⟩
end Go.Proofs.YtdfkaijeppdhaaaGreatDoor

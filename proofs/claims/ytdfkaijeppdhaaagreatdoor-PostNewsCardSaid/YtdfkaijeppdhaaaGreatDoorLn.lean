/- The law PostNews. -/
import Derived.Test.YtdfkaijeppdhaaaGreatDoorFm
namespace Go.Proofs.YtdfkaijeppdhaaaGreatDoor
open Go.RowKit Go.Shelf

theorem allB_emp : allB empB = [] := by
  have h : lenB empB = 0 := rfl
  exact List.length_eq_zero_iff.1 ((allB_len empB).trans h)
theorem cntB_emp : cntB empB = 0 := rfl
set_option maxRecDepth 100000 in
set_option maxHeartbeats 4000000 in
theorem PostNews_walk (n : Int) (w : World) (hV : Vars w) : Calls Tryz.prog 8 #[.int .i64 n] w (BoolPost true w) := by
  cases hb : betw 0 n 3 with
  | false =>
    have HNB := Lib.hid (new_bad n hb w)
    have HSN := Lib.hid (sane_any w hV)
    have hr : n < 0 ∨ 3 < n := by
      by_cases h0 : n < 0
      · exact .inl h0
      · by_cases h3 : 3 < n
        · exact .inr h3
        · rw [(betw_iff 0 n 3).2 ⟨by omega, by omega⟩] at hb; cases hb
    clear hb hV
    by_cases h0 : n < 0
    · go_enter Tryz.func8, Tryz.ntmps8
      go_wp2_with fail
      refine HNB.out.mono ?_
      rintro e w' ⟨rfl, rfl⟩
      go_wp2_with fail
      refine HSN.out.mono ?_
      rintro e w' ⟨rfl, hb⟩
      go_wp2
      go_ret
      exact ⟨rfl, hb⟩
    · have h3 : 3 < n := hr.resolve_left h0
      go_enter Tryz.func8, Tryz.ntmps8
      go_wp2_with fail
      refine HNB.out.mono ?_
      rintro e w' ⟨rfl, rfl⟩
      go_wp2_with fail
      refine HSN.out.mono ?_
      rintro e w' ⟨rfl, hb⟩
      go_wp2
      go_ret
      exact ⟨rfl, hb⟩
  | true =>
    obtain ⟨h0, h3⟩ := (betw_iff _ _ _).1 hb
    obtain ⟨m, rfl⟩ : ∃ m : Nat, n = (m : Int) := ⟨n.toNat, (Int.toNat_of_nonneg h0).symm⟩
    have hm : m < 4 := by omega
    have HNW := Lib.hid (new_any m hm w)
    have hb1 : Below w.heap.size w ((w.alloc (.cells #[.slice none 0 0, .slice none 0 0, .slice none 0 0, .slice none 0 0] 96)).alloc (.cells #[.pointer (some ⟨w.heap.size, 0, none⟩), .int .i64 m] 81)) := ((Below.refl _ _).alloc (Nat.le_refl _) _).alloc (by simp) _
    have hp := new_post m w
    have hn0 : ¬ (m : Int) < 0 := by omega
    have hn3 : ¬ 3 < (m : Int) := by omega
    obtain ⟨w1, hw1⟩ : ∃ w1, w1 = ((w.alloc (.cells #[.slice none 0 0, .slice none 0 0, .slice none 0 0, .slice none 0 0] 96)).alloc (.cells #[.pointer (some ⟨w.heap.size, 0, none⟩), .int .i64 m] 81)) := ⟨_, rfl⟩
    rw [← hw1] at hb1 hp HNW
    have HP := Lib.hid hp
    have HB1 := Lib.hid hb1
    have HVR := Lib.hid hV
    have heq : ∀ W, (binOp .eql 34 (.agg #[.int .i64 0, .int .i64 0, .int .i64 0, .int .i64 0]) (.agg #[.int .i64 0, .int .i64 0, .int .i64 0, .int .i64 0])).run Tryz.prog W = .ok (.bool true) W := fun W => by kernel_rfl
    clear hb hw1 hb1 hp hV
    go_enter Tryz.func8, Tryz.ntmps8
    go_wp2_with fail
    refine HNW.out.mono ?_
    rintro e w' ⟨rfl, rfl⟩
    go_wp2_with fail
    refine (number_post _ _ _ _ _ HP.out).mono ?_
    rintro e w' ⟨rfl, rfl⟩
    go_wp2_with fail
    refine (count_post _ _ _ _ _ HP.out empB_ok).mono ?_
    rintro e w' ⟨rfl, rfl⟩
    rw [cntB_emp]
    go_wp2_with fail
    refine (book_post _ _ _ _ _ HP.out empB_ok).mono ?_
    rw [allB_emp]
    rintro e w2 ⟨v, rfl, hl, _, hb2⟩
    obtain ⟨a0, c0, rfl⟩ := own_shape hl
    have HP2 := Lib.hid (HP.out.below hb2)
    have HB2 := Lib.hid (below_trans HB1.out hb2)
    clear hl hb2
    go_wp2_with fail
    refine (text_post _ _ _ _ _ HP2.out empB_ok (HVR.out.below HB2.out)).mono ?_
    rw [textB_emp]
    unfold emp
    rintro e w3 ⟨rfl, hb3⟩
    have HP3 := Lib.hid (HP2.out.below hb3)
    have HB3 := Lib.hid (below_trans HB2.out hb3)
    clear hb3
    go_wp2_with fail
    have HSE := Lib.hid (seen_post _ _ _ _ _ HP3.out empB_ok)
    unfold SeenPost at HSE
    rw [show (empB 0).length = 0 from rfl, show (empB 1).length = 0 from rfl, show (empB 2).length = 0 from rfl, show (empB 3).length = 0 from rfl, show ((0 : Nat) : Int) = 0 from rfl] at HSE
    refine HSE.out.mono ?_
    rintro e w4 ⟨rfl, hb4⟩
    have HB4 := Lib.hid (below_trans HB3.out hb4)
    clear hb4
    go_wp2_with fail
    refine (sane_any _ (HVR.out.below HB4.out)).mono ?_
    rintro e w5 ⟨rfl, hb5⟩
    have HB5 := Lib.hid (below_trans HB4.out hb5)
    clear hb5
    go_wp2
    go_ret
    exact ⟨rfl, HB5.out⟩
end Go.Proofs.YtdfkaijeppdhaaaGreatDoor

/- The law PostReads. -/
import Derived.Test.YtdfkaijeppdhaaaGreatDoorRe
import Derived.Test.YtdfkaijeppdhaaaGreatDoorRc
import Derived.Test.YtdfkaijeppdhaaaGreatDoorRs
namespace Go.Proofs.YtdfkaijeppdhaaaGreatDoor
open Go.RowKit Go.Shelf

def PReadS (er : Int) (b : Book) (w : World) (e : Ending) (w' : World) : Prop := ∃ a k, e = .returned (.tuple #[.slice a (allB b).length k, .int .i64 er]) ∧ ListAt w' (.slice a (allB b).length k) (allB b) ∧ Below w.heap.size w w'
def RReadS (er : Int) (c : Book) (w : World) (e : Ending) (w' : World) : Prop := ∃ a0 k0 a1 k1 a2 k2 a3 k3, e = .returned (.tuple #[.agg #[.slice a0 (c 0).length k0, .slice a1 (c 1).length k1, .slice a2 (c 2).length k2, .slice a3 (c 3).length k3], .int .i64 er]) ∧
  (ListAt w' (.slice a0 (c 0).length k0) (c 0) ∧ ListAt w' (.slice a1 (c 1).length k1) (c 1) ∧ ListAt w' (.slice a2 (c 2).length k2) (c 2) ∧ ListAt w' (.slice a3 (c 3).length k3) (c 3)) ∧ Below w.heap.size w w'
theorem allB_nil : allB empB = [] := rfl
/-- What both read. -/
theorem reads_any (s : ByteArray) (w : World) (hV : Vars w) (hs : s.size ≤ 4000000) : ∃ er b c, BookOk c ∧ allB b = allB c ∧ (allB b).length ≤ 240 ∧ Calls Tryz.prog 40 #[.string s] w (PReadS er b w) ∧ ∀ W, Calls Tryz.prog 41 #[.string s] W (RReadS er c W) := by
  have h1 := pread_any s w hV (by omega)
  have h2 := fun W => rread_any s W hs
  rcases read_same s with ⟨e1, e2⟩ | ⟨b, c, e1, e2, hb, hc, he⟩
  · refine ⟨3, empB, empB, empB_ok, rfl, by decide, h1.mono ?_, fun W => (h2 W).mono ?_⟩
    · rw [e1]
      rintro e w' ⟨rfl, hb⟩
      exact ⟨none, 0, rfl, listAt_nil _, hb⟩
    · rw [e2]
      rintro e w' ⟨rfl, hb⟩
      exact ⟨none, 0, none, 0, none, 0, none, 0, rfl, ⟨listAt_nil _, listAt_nil _, listAt_nil _, listAt_nil _⟩, hb⟩
  · refine ⟨0, b, c, hc, he.all, by rw [allB_len]; exact lenB_le hb, h1.mono ?_, fun W => (h2 W).mono ?_⟩
    · rw [e1]
      rintro e w' ⟨⟨v, rfl, hl, _⟩, hb⟩
      obtain ⟨a, k, rfl⟩ := own_shape hl
      exact ⟨a, k, rfl, hl, hb⟩
    · rw [e2]
      rintro e w' ⟨⟨vs, rfl, _, hl⟩, hb⟩
      have l0 := (hl 0 (by omega)).1
      have l1 := (hl 1 (by omega)).1
      have l2 := (hl 2 (by omega)).1
      have l3 := (hl 3 (by omega)).1
      obtain ⟨a0, k0, q0⟩ := own_shape l0
      obtain ⟨a1, k1, q1⟩ := own_shape l1
      obtain ⟨a2, k2, q2⟩ := own_shape l2
      obtain ⟨a3, k3, q3⟩ := own_shape l3
      rw [q0] at l0
      rw [q1] at l1
      rw [q2] at l2
      rw [q3] at l3
      exact ⟨a0, k0, a1, k1, a2, k2, a3, k3, by rw [q0, q1, q2, q3], ⟨l0, l1, l2, l3⟩, hb⟩
set_option maxRecDepth 100000 in
set_option maxHeartbeats 8000000 in
theorem PostReads_walk (s : ByteArray) (w : World) (_hs : s.size ≤ maxLen) (hV : Vars w) : Calls Tryz.prog 10 #[.string s] w (BoolPost true w) := by
  have HVR := Lib.hid hV
  by_cases h3 : 3000 < s.size
  · have h3i : (3000 : Int) < (s.size : Int) := by omega
    clear h3 hV
    go_enter Tryz.func10, Tryz.ntmps10
    go_wp2_with fail
    refine (sane_any w HVR.out).mono ?_
    rintro e w2 ⟨rfl, hb2⟩
    go_wp2
    go_ret
    exact ⟨rfl, hb2⟩
  · have h3i : ¬ (3000 : Int) < (s.size : Int) := by omega
    obtain ⟨er, b, c, hc, hbc, hl, h1, h2⟩ := reads_any s w hV (by omega)
    have HC := Lib.hid hc
    have HBC := Lib.hid hbc
    have H1 := Lib.hid h1
    have H2 := Lib.hid h2
    obtain ⟨l, hlb⟩ : ∃ l, l = allB b := ⟨_, rfl⟩
    have HLB := Lib.hid hlb
    rw [← hlb] at HBC hl
    have H1' : Hid (Calls Tryz.prog 40 #[.string s] w fun e w' => ∃ a k, e = .returned (.tuple #[.slice a l.length k, .int .i64 er]) ∧ ListAt w' (.slice a l.length k) l ∧ Below w.heap.size w w') := Lib.hid (by rw [hlb]; exact h1)
    clear h3 hV hc hbc h1 h2 hlb H1 HLB
    obtain ⟨nl, hnl⟩ : ∃ nl, nl = l.length := ⟨_, rfl⟩
    have HNL := Lib.hid hnl
    rw [← hnl] at H1' hl
    clear hnl
    go_enter Tryz.func10, Tryz.ntmps10
    go_wp2_with fail
    refine H1'.out.mono ?_
    rintro e w1 ⟨a, k, rfl, hl1, hb1⟩
    have HL1 : Hid (EntsAt w1 (.slice a nl k) l) := Lib.hid (by
      have := ListAt.ents (l := l) hl1 (by rw [← HNL.out]; omega)
      exact this)
    have HB1 := Lib.hid hb1
    clear hb1 hl1
    go_wp2_with fail
    refine (H2.out w1).mono ?_
    rintro e w2 ⟨a0, k0, a1, k1, a2, k2, a3, k3, rfl, ⟨l0, l1, l2, l3⟩, hb2⟩
    obtain ⟨w4, hw4⟩ : ∃ w4, w4 = (w2.alloc (.cells #[.slice a0 (c 0).length k0, .slice a1 (c 1).length k1, .slice a2 (c 2).length k2, .slice a3 (c 3).length k3] 52)).alloc (.cells #[.int .i64 0, .slice a0 (c 0).length k0, .slice a1 (c 1).length k1, .slice a2 (c 2).length k2, .slice a3 (c 3).length k3] 54) := ⟨_, rfl⟩
    have HB24 : Hid (Below w2.heap.size w2 w4) := Lib.hid (by rw [hw4]; exact ((Below.refl _ _).alloc (Nat.le_refl _) _).alloc (by simp) _)
    have HB4 := Lib.hid (below_trans HB1.out (below_trans hb2 HB24.out))
    have HL4 := Lib.hid (HL1.out.below (below_trans hb2 HB24.out))
    have HRF : Hid (RfAt w4 (w2.heap.size + 1) 0 (fun i => if i = 0 then .slice a0 (c 0).length k0 else if i = 1 then .slice a1 (c 1).length k1 else if i = 2 then .slice a2 (c 2).length k2 else .slice a3 (c 3).length k3) c) := Lib.hid (by
      refine ⟨?_, fun i hi => ?_⟩
      · have := World.alloc_heap_new (w2.alloc (.cells #[.slice a0 (c 0).length k0, .slice a1 (c 1).length k1, .slice a2 (c 2).length k2, .slice a3 (c 3).length k3] 52)) (.cells #[.int .i64 0, .slice a0 (c 0).length k0, .slice a1 (c 1).length k1, .slice a2 (c 2).length k2, .slice a3 (c 3).length k3] 54)
        rw [World.size_alloc] at this
        rw [hw4]; exact this
      · have hx : ∀ v i, i < 4 → ListAt w2 v (c i) → EntsAt w4 v (c i) := fun v i hi h => (h.ents (by have := (HC.out i hi).len; omega)).below HB24.out
        rcases (show i = 0 ∨ i = 1 ∨ i = 2 ∨ i = 3 by omega) with rfl | rfl | rfl | rfl
        · exact hx _ 0 (by omega) l0
        · exact hx _ 1 (by omega) l1
        · exact hx _ 2 (by omega) l2
        · exact hx _ 3 (by omega) l3)
    have HBK := Lib.hid (rbook_any _ _ _ _ _ HRF.out HC.out)
    rw [← HBC.out] at HBK
    have HW4 := Lib.hid hw4
    clear hw4 hb2 l0 l1 l2 l3
    go_wp2_with fail
    rw [← HW4.out]
    refine HBK.out.mono ?_
    rintro e w5 ⟨v5, rfl, hl5, _, hb5⟩
    have HL5 : Hid (EntsAt w5 v5 l) := Lib.hid (hl5.ents (by rw [← HNL.out]; omega))
    have HSM := Lib.hid (sameE_any (.slice a nl k) v5 l l w5 (HL4.out.below hb5) HL5.out (by rw [← HNL.out]; omega))
    have HB5 := Lib.hid (below_trans HB4.out hb5)
    obtain ⟨a5, k5, rfl⟩ := own_shape hl5
    clear hl5 hb5
    rw [decide_eq_true (rfl : l = l)] at HSM
    go_wp2_with fail
    refine HSM.out.mono ?_
    rintro e w6 ⟨rfl, hb6⟩
    have HB6 := Lib.hid (below_trans HB5.out hb6)
    clear hb6
    go_wp2_with fail
    refine (sane_any w6 (HVR.out.below HB6.out)).mono ?_
    rintro e w7 ⟨rfl, hb7⟩
    have HB7 := Lib.hid (below_trans HB6.out hb7)
    clear hb7
    go_wp2
    go_ret
    exact ⟨rfl, HB7.out⟩
end Go.Proofs.YtdfkaijeppdhaaaGreatDoor

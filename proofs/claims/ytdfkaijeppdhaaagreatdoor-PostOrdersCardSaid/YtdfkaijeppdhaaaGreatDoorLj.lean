/- The law PostJoins. -/
import Derived.Test.YtdfkaijeppdhaaaGreatDoorWn
import Derived.Test.YtdfkaijeppdhaaaGreatDoorLc
import Derived.Test.YtdfkaijeppdhaaaGreatDoorQd
namespace Go.Proofs.YtdfkaijeppdhaaaGreatDoor
open Go.RowKit Go.Shelf

/-! ### Plain -/
theorem joinV_under {M : Nat → List Ent} {b o : Book} (hb : Under M b) (ho : Under M o) : joinV b o = (0, joinL b o) := by unfold joinV; rw [(join_under hb ho).1]
theorem joinL_under {M : Nat → List Ent} {b o : Book} (hb : Under M b) (ho : Under M o) : Under M (joinL b o) := (join_under hb ho).2
theorem text_of_len {M : Nat → List Ent} {b c : Book} (hb : Under M b) (hc : Under M c) (h : ∀ i, i < 4 → (b i).length = (c i).length) : textB b = textB c := (under_eq hb hc h).text
/-- A join that comes off. -/
theorem join_ok {base : Nat} {w : World} {l : List PB} (h : PsL base w l) {i j : Nat} (hi : i < l.length) (hj : j < l.length) {c : Book} (hc : joinV (atL l i).2.2 (atL l j).2.2 = (0, c)) :
    Calls Tryz.prog 22 #[.pointer (some ⟨(atL l i).1, 0, none⟩), .pointer (some ⟨(atL l j).1, 0, none⟩)] w fun e w' => e = .returned (.int .i64 0) ∧ PsL base w' (setL l i ((atL l i).1, (atL l i).2.1, c)) ∧ Kin base w w' := by
  refine (join_l h hi hj).mono ?_
  rw [hc]
  rintro e w' h9
  exact h9
/-- What stays of the rows of pointers. -/
def KN (base : Nat) (w W : World) : Prop := Kin base w W
theorem KN.refl (base : Nat) (w : World) : KN base w w := Kin.refl _ _
theorem KN.drew {base : Nat} {w W : World} (h : KN base w W) : KN base w W.drew := Kin.trans h (Kin.of_below (Below.refl _ _).drew)
theorem KN.call {base : Nat} {w W w2 : World} (h : KN base w W) (k : Kin base W w2) : KN base w w2 := Kin.trans h k
theorem PsL.drew {base : Nat} {w : World} {l : List PB} (h : PsL base w l) : PsL base w.drew l := h.below (Below.refl _ _).drew
/-- A row of pointers. -/
structure PtrsAt (w : World) (g c : Nat) (Q : Nat → Nat) : Prop where
  row : ∃ base, w.ownsRow base 33 1 (.slice (some ⟨g, 0, none⟩) 3 c) 3 (ptrsP Q 3)
theorem PtrsAt.cell {w : World} {g c : Nat} {Q : Nat → Nat} (h : PtrsAt w g c Q) {j : Nat} (hj : j < 3) : w.cell? ⟨g, j, none⟩ = some (.pointer (some ⟨Q j, 0, none⟩)) := by
  obtain ⟨base, h⟩ := h.row
  have := h.cellAt j (by omega)
  rw [this, ptrsP_at Q hj]
theorem PtrsAt.kin {base : Nat} {w w' : World} {g c : Nat} {Q : Nat → Nat} (h : PtrsAt w g c Q) (hk : Kin base w w') : PtrsAt w' g c Q := by
  obtain ⟨base, h⟩ := h.row
  exact ⟨base, hk.own h ptr_notT⟩
theorem PtrsAt.below {w w' : World} {g c : Nat} {Q : Nat → Nat} (h : PtrsAt w g c Q) (hb : Below w.heap.size w w') : PtrsAt w' g c Q := by
  obtain ⟨base, h⟩ := h.row
  exact ⟨base, own_below h hb⟩
theorem PtrsAt.hold {base : Nat} {w W : World} {g c : Nat} {Q : Nat → Nat} (h : PtrsAt w g c Q) (hk : KN base w W) {j : Nat} (hj : j < 3) : W.cell? ⟨g, j, none⟩ = some (.pointer (some ⟨Q j, 0, none⟩)) := (h.kin hk).cell hj

theorem seen_eq {b c : Book} (h : BookEq b c) : seenV b = seenV c := by
  unfold seenV
  rw [h 0 (by omega), h 1 (by omega), h 2 (by omega), h 3 (by omega)]
theorem slice_nil (W : World) (g c : Nat) : (binOp .eql 31 (.slice (some ⟨g, 0, none⟩) 3 c) (.slice none 0 0)).run Tryz.prog W = .ok (.bool false) W := by kernel_rfl
/-! ### The posts of the law -/
def lst9 (P A B : Nat → Nat) (bs : Nat → Book) (x y : Book) : List PB :=
  [(P 0, 0, bs 0), (P 1, 1, bs 1), (P 2, 2, bs 2), (A 0, 0, x), (A 1, 1, bs 1), (A 2, 2, bs 2), (B 0, 0, bs 0), (B 1, 1, y), (B 2, 2, bs 2)]
def lst12 (P A B C : Nat → Nat) (bs : Nat → Book) (x y z : Book) : List PB :=
  [(P 0, 0, bs 0), (P 1, 1, bs 1), (P 2, 2, bs 2), (A 0, 0, x), (A 1, 1, bs 1), (A 2, 2, bs 2), (B 0, 0, bs 0), (B 1, 1, y), (B 2, 2, bs 2), (C 0, 0, bs 0), (C 1, 1, bs 1), (C 2, 2, z)]
/-- What the loops keep: the post c, last of all. -/
structure JnI (base : Nat) (w : World) (P A B C : Nat → Nat) (bs : Nat → Book) (x y z : Book) (wr : World) : Prop where
  ps : PsL base wr (lst12 P A B C bs x y z)
  under : Under (masters bs) z
  kin : Kin base w wr
theorem lens_under {bs : Nat → Book} {z : Book} (h : Under (masters bs) z) (i : Nat) (hi : i < 3) : (z i).length ≤ (bs i i).length := by
  have := (h i (by omega)).length_le
  unfold masters at this
  rwa [if_pos hi] at this
theorem lens_three {bs : Nat → Book} {z : Book} (h : Under (masters bs) z) : (z 3).length = 0 := by
  have := (h 3 (by omega)).length_le
  unfold masters at this
  rw [if_neg (by omega)] at this
  simpa using this
/-- All have been joined to c: its book is that of a. -/
theorem all_joined {bs : Nat → Book} {x z : Book} (hx : Under (masters bs) x) (hz : Under (masters bs) z) (h1 : ∀ j, j < 3 → ∀ i, i < 4 → (bs j i).length ≤ (x i).length) (h2 : ∀ j, j < 3 → ∀ i, i < 4 → (bs j i).length ≤ (z i).length) : BookEq x z := by
  refine under_eq hx hz fun i hi => ?_
  by_cases h : i < 3
  · have a1 := lens_under hx i h
    have a2 := lens_under hz i h
    have a3 := h1 i h i hi
    have a4 := h2 i h i hi
    omega
  · obtain rfl : i = 3 := by omega
    rw [lens_three hx, lens_three hz]
set_option maxRecDepth 100000 in
set_option maxHeartbeats 16000000 in
theorem PostJoins_walk (v v2 : Value) (lines : List ByteArray) (n : Int) (order : List Int) (w : World) (hL : StrsIn w v lines) (_hn : (Lit.int .u32 n).wf = true) (hO : U8sAt w v2 order) (hV : Vars w) :
    Calls Tryz.prog 9 #[v, .int .u32 n, v2] w (BoolPost true w) := by
  have HVR := Lib.hid hV
  have HLG := Lib.hid (long_any v lines 24 w hL)
  have HWR := Lib.hid (fun W (hW : Below w.heap.size w W) (h1 : ∀ s ∈ lines, s.size ≤ 200) (h2 : lines.length ≤ 30) => written_any v lines n W (hL.at_.below hW) h1 h2 (HVR.out.below hW))
  obtain ⟨la, lc, rfl, hc⟩ := hL.at_
  have HOV := Lib.hid hO.val
  obtain ⟨oa, oc, rfl, hol, hoc⟩ := hO.at_
  have HOC := Lib.hid hoc
  obtain ⟨no, hno⟩ : ∃ no, no = order.length := ⟨_, rfl⟩
  have HNO := Lib.hid hno
  rw [← hno]
  rw [← hno] at hol
  have hol2 : (no : Int) ≤ 9223372036854775807 := by unfold maxLen at hol; omega
  clear hc hL hV hO hoc hno hol
  cases hlong : longB lines 24 with
  | true =>
    rw [hlong] at HLG
    clear hlong
    go_enter Tryz.func9, Tryz.ntmps9
    go_wp2_with fail
    refine HLG.out.mono ?_
    rintro e w1 ⟨rfl, hb1⟩
    have HB1 := Lib.hid hb1
    clear hb1
    go_wp2_with fail
    refine (sane_any _ (HVR.out.below HB1.out)).mono ?_
    rintro e w2 ⟨rfl, hb2⟩
    have HB2 := Lib.hid (below_trans HB1.out hb2)
    clear hb2
    go_wp2
    go_ret
    exact ⟨rfl, HB2.out⟩
  | false =>
    rw [hlong] at HLG
    by_cases h20 : 20 < (no : Int)
    · clear hlong
      go_enter Tryz.func9, Tryz.ntmps9
      go_wp2_with fail
      refine HLG.out.mono ?_
      rintro e w1 ⟨rfl, hb1⟩
      have HB1 := Lib.hid hb1
      clear hb1
      go_wp2_with fail
      refine (sane_any _ (HVR.out.below HB1.out)).mono ?_
      rintro e w2 ⟨rfl, hb2⟩
      have HB2 := Lib.hid (below_trans HB1.out hb2)
      clear hb2
      go_wp2
      go_ret
      exact ⟨rfl, HB2.out⟩
    · obtain ⟨hsz, hlen⟩ := longB_no hlong
      have HFS := Lib.hid hsz
      have HFL := Lib.hid (show lines.length ≤ 30 by omega)
      clear hlong hsz hlen
      go_enter Tryz.func9, Tryz.ntmps9
      go_wp2_with fail
      refine HLG.out.mono ?_
      rintro e w1 ⟨rfl, hb1⟩
      have HW2 := Lib.hid (HWR.out w1 hb1 HFS.out HFL.out)
      have HB1 := Lib.hid hb1
      clear hb1
      go_wp2_with fail
      refine HW2.out.mono ?_
      rintro e w2 ⟨g, c, P, bs, rfl, hJ⟩
      have HSY := Lib.hid hJ.sys
      have HP2 : Hid (PsL w1.heap.size w2 [(P 0, 0, bs 0), (P 1, 1, bs 1), (P 2, 2, bs 2)]) := Lib.hid (hJ.ps.congr fun i hi => by
        rcases (show i = 0 ∨ i = 1 ∨ i = 2 by omega) with rfl | rfl | rfl <;> exact ⟨rfl, rfl, rfl⟩)
      have HR2 : Hid (PtrsAt w2 g c P) := Lib.hid ⟨⟨_, hJ.row⟩⟩
      have HB2 := Lib.hid (below_trans HB1.out hJ.below)
      have HC2 := Lib.hid (copies_any _ _ g c w2 HP2.out (Nat.le_refl _) (fun j hj => by
        rw [HR2.out.cell hj]
        rcases (show j = 0 ∨ j = 1 ∨ j = 2 by omega) with rfl | rfl | rfl <;> rfl))
      clear hJ HW2
      have hnl : ∀ W, (binOp .eql 31 (.slice (some ⟨g, 0, none⟩) 3 c) (.slice none 0 0)).run Tryz.prog W = .ok (.bool false) W := fun W => slice_nil W g c
      go_wp2_with fail
      refine HC2.out.mono ?_
      rintro e w3 ⟨ga, ca, A, rfl, hA⟩
      have HP3 : Hid (PsL w1.heap.size w3 [(P 0, 0, bs 0), (P 1, 1, bs 1), (P 2, 2, bs 2), (A 0, 0, bs 0), (A 1, 1, bs 1), (A 2, 2, bs 2)]) := Lib.hid hA.ps
      have HR3 := Lib.hid (HR2.out.below hA.below)
      have HA3 : Hid (PtrsAt w3 ga ca A) := Lib.hid ⟨⟨_, hA.row⟩⟩
      have HB3 := Lib.hid (below_trans HB2.out hA.below)
      have HC3 := Lib.hid (copies_any _ _ g c w3 HP3.out (by show 3 ≤ 6; omega) (fun j hj => by
        rw [HR3.out.cell hj]
        rcases (show j = 0 ∨ j = 1 ∨ j = 2 by omega) with rfl | rfl | rfl <;> rfl))
      clear hA HC2
      go_wp2_with fail
      refine HC3.out.mono ?_
      rintro e w4 ⟨gb, cb, B, rfl, hB⟩
      have HP4 : Hid (PsL w1.heap.size w4 (lst9 P A B bs (bs 0) (bs 1))) := Lib.hid hB.ps
      have HR4 := Lib.hid (HR3.out.below hB.below)
      have HA4 := Lib.hid (HA3.out.below hB.below)
      have HQ4 : Hid (PtrsAt w4 gb cb B) := Lib.hid ⟨⟨_, hB.row⟩⟩
      have HB4 := Lib.hid (below_trans HB3.out hB.below)
      clear hB HC3
      -- the books
      have HU : Hid (∀ j, j < 3 → Under (masters bs) (bs j)) := Lib.hid (fun j hj => HSY.out.under hj)
      obtain ⟨x1, hx1⟩ : ∃ x1, x1 = joinL (bs 0) (bs 0) := ⟨_, rfl⟩
      obtain ⟨x2, hx2⟩ : ∃ x2, x2 = joinL x1 (bs 1) := ⟨_, rfl⟩
      obtain ⟨y1, hy1⟩ : ∃ y1, y1 = joinL (bs 1) (bs 0) := ⟨_, rfl⟩
      obtain ⟨x3, hx3⟩ : ∃ x3, x3 = joinL x2 (bs 2) := ⟨_, rfl⟩
      have HU1 : Hid (Under (masters bs) x1) := Lib.hid (hx1 ▸ joinL_under (HU.out 0 (by omega)) (HU.out 0 (by omega)))
      have HU2 : Hid (Under (masters bs) x2) := Lib.hid (hx2 ▸ joinL_under HU1.out (HU.out 1 (by omega)))
      have HUY : Hid (Under (masters bs) y1) := Lib.hid (hy1 ▸ joinL_under (HU.out 1 (by omega)) (HU.out 0 (by omega)))
      have HU3 : Hid (Under (masters bs) x3) := Lib.hid (hx3 ▸ joinL_under HU2.out (HU.out 2 (by omega)))
      have HV1 : Hid (joinV (bs 0) (bs 0) = (0, x1)) := Lib.hid (hx1 ▸ joinV_under (HU.out 0 (by omega)) (HU.out 0 (by omega)))
      have HV2 : Hid (joinV x1 (bs 1) = (0, x2)) := Lib.hid (hx2 ▸ joinV_under HU1.out (HU.out 1 (by omega)))
      have HVY : Hid (joinV (bs 1) (bs 0) = (0, y1)) := Lib.hid (hy1 ▸ joinV_under (HU.out 1 (by omega)) (HU.out 0 (by omega)))
      have HV3 : Hid (joinV x2 (bs 2) = (0, x3)) := Lib.hid (hx3 ▸ joinV_under HU2.out (HU.out 2 (by omega)))
      have HT1 : Hid (textB x1 = textB (bs 0)) := Lib.hid (text_of_len HU1.out (HU.out 0 (by omega)) (fun i _ => by rw [hx1, join_len]; omega))
      have HT2 : Hid (textB x2 = textB y1) := Lib.hid (text_of_len HU2.out HUY.out (fun i _ => by rw [hx2, hx1, hy1, join_len, join_len, join_len]; omega))
      have HX3 : Hid (∀ j, j < 3 → ∀ i, i < 4 → (bs j i).length ≤ (x3 i).length) := Lib.hid (fun j hj i _ => by
        rw [hx3, hx2, hx1, join_len, join_len, join_len]
        rcases (show j = 0 ∨ j = 1 ∨ j = 2 by omega) with rfl | rfl | rfl <;> omega)
      clear hx1 hx2 hy1 hx3
      have ra0 : ∀ W, KN w1.heap.size w4 W → W.cell? ⟨ga, 0, none⟩ = some (.pointer (some ⟨A 0, 0, none⟩)) := fun W hW => HA4.out.hold hW (by omega)
      have rl0 : ∀ W, KN w1.heap.size w4 W → W.cell? ⟨g, 0, none⟩ = some (.pointer (some ⟨P 0, 0, none⟩)) := fun W hW => HR4.out.hold hW (by omega)
      have rl1 : ∀ W, KN w1.heap.size w4 W → W.cell? ⟨g, 1, none⟩ = some (.pointer (some ⟨P 1, 0, none⟩)) := fun W hW => HR4.out.hold hW (by omega)
      have rb1 : ∀ W, KN w1.heap.size w4 W → W.cell? ⟨gb, 1, none⟩ = some (.pointer (some ⟨B 1, 0, none⟩)) := fun W hW => HQ4.out.hold hW (by omega)
      go_wp2_with fail
      go_region_held3 (fun W => KN w1.heap.size w4 W) (first | exact KN.refl _ _ | exact KN.drew (KN.refl _ _) | assumption | exact KN.drew (by assumption) | fail) (first
        | (go_at_call 22; have HC : Calls Tryz.prog 22 #[.pointer (some ⟨A 0, 0, none⟩), .pointer (some ⟨A 0, 0, none⟩)] w4.drew (fun e w' => e = .returned (.int .i64 0) ∧ PsL w1.heap.size w' (lst9 P A B bs x1 (bs 1)) ∧ Kin w1.heap.size (w4.drew) w') := join_ok (PsL.drew HP4.out) (i := 3) (j := 3) (by show 3 < 9; omega) (by show 3 < 9; omega) HV1.out; (with_reducible refine HC.mono ?_); rintro e w5 ⟨rfl, hA5, hK5⟩; have hs5 : KN w1.heap.size w4 w5 := KN.call (KN.drew (KN.refl _ _)) hK5; have HP5 := Lib.hid hA5; clear hA5 hK5 HC)
        | (go_at_call 37; have HC : Calls Tryz.prog 37 #[.pointer (some ⟨A 0, 0, none⟩), .pointer (some ⟨P 0, 0, none⟩)] w5 (fun e w' => e = .returned (.bool true) ∧ PsL w1.heap.size w' (lst9 P A B bs x1 (bs 1)) ∧ Kin w1.heap.size (w5) w') := same_l HP5.out (i := 3) (j := 0) (by show 3 < 9; omega) (by show 0 < 9; omega) (decide_eq_true HT1.out); (with_reducible refine HC.mono ?_); rintro e w6 ⟨rfl, hA6, hK6⟩; have hs6 : KN w1.heap.size w4 w6 := KN.call hs5 hK6; have HP6 := Lib.hid hA6; clear hA6 hK6 HC)
        | (go_at_call 22; have HC : Calls Tryz.prog 22 #[.pointer (some ⟨A 0, 0, none⟩), .pointer (some ⟨P 1, 0, none⟩)] w6 (fun e w' => e = .returned (.int .i64 0) ∧ PsL w1.heap.size w' (lst9 P A B bs x2 (bs 1)) ∧ Kin w1.heap.size (w6) w') := join_ok HP6.out (i := 3) (j := 1) (by show 3 < 9; omega) (by show 1 < 9; omega) HV2.out; (with_reducible refine HC.mono ?_); rintro e w7 ⟨rfl, hA7, hK7⟩; have hs7 : KN w1.heap.size w4 w7 := KN.call hs6 hK7; have HP7 := Lib.hid hA7; clear hA7 hK7 HC)
        | (go_at_call 22; have HC : Calls Tryz.prog 22 #[.pointer (some ⟨B 1, 0, none⟩), .pointer (some ⟨P 0, 0, none⟩)] w7 (fun e w' => e = .returned (.int .i64 0) ∧ PsL w1.heap.size w' (lst9 P A B bs x2 y1) ∧ Kin w1.heap.size (w7) w') := join_ok HP7.out (i := 7) (j := 0) (by show 7 < 9; omega) (by show 0 < 9; omega) HVY.out; (with_reducible refine HC.mono ?_); rintro e w8 ⟨rfl, hA8, hK8⟩; have hs8 : KN w1.heap.size w4 w8 := KN.call hs7 hK8; have HP8 := Lib.hid hA8; clear hA8 hK8 HC)
        | (go_at_call 37; have HC : Calls Tryz.prog 37 #[.pointer (some ⟨A 0, 0, none⟩), .pointer (some ⟨B 1, 0, none⟩)] w8 (fun e w' => e = .returned (.bool true) ∧ PsL w1.heap.size w' (lst9 P A B bs x2 y1) ∧ Kin w1.heap.size (w8) w') := same_l HP8.out (i := 3) (j := 7) (by show 3 < 9; omega) (by show 7 < 9; omega) (decide_eq_true HT2.out); (with_reducible refine HC.mono ?_); rintro e w9 ⟨rfl, hA9, hK9⟩; have hs9 : KN w1.heap.size w4 w9 := KN.call hs8 hK9; have HP9 := Lib.hid hA9; clear hA9 hK9 HC)
        | fail)
      have HR9 := Lib.hid (HR4.out.kin hs9)
      have HA9 := Lib.hid (HA4.out.kin hs9)
      have HB9 : Hid (Below w.heap.size w w9) := Lib.hid (HB4.out.trans ((Kin.below hs9 (by have h8 := HB1.out.size; have h9 := HP4.out.size; exact h9)).mono HB1.out.size))
      have HP9' := Lib.hid HP9.out
      clear ra0 rl0 rl1 rb1 hs5 hs6 hs7 hs8 hs9 HP5 HP6 HP7 HP8 HP4 HR4 HA4 HQ4 HB4 HP3 HR3 HA3 HP2 HR2
      have ra0 : ∀ W, KN w1.heap.size w9 W → W.cell? ⟨ga, 0, none⟩ = some (.pointer (some ⟨A 0, 0, none⟩)) := fun W hW => HA9.out.hold hW (by omega)
      have rl2 : ∀ W, KN w1.heap.size w9 W → W.cell? ⟨g, 2, none⟩ = some (.pointer (some ⟨P 2, 0, none⟩)) := fun W hW => HR9.out.hold hW (by omega)
      go_wp2_with fail
      go_region_held3 (fun W => KN w1.heap.size w9 W) (first | exact KN.refl _ _ | exact KN.drew (KN.refl _ _) | assumption | exact KN.drew (by assumption) | fail) (first
        | (go_at_call 22; have HC : Calls Tryz.prog 22 #[.pointer (some ⟨A 0, 0, none⟩), .pointer (some ⟨P 2, 0, none⟩)] w9.drew (fun e w' => e = .returned (.int .i64 0) ∧ PsL w1.heap.size w' (lst9 P A B bs x3 y1) ∧ Kin w1.heap.size (w9.drew) w') := join_ok (PsL.drew HP9'.out) (i := 3) (j := 2) (by show 3 < 9; omega) (by show 2 < 9; omega) HV3.out; (with_reducible refine HC.mono ?_); rintro e w10 ⟨rfl, hA10, hK10⟩; have hs10 : KN w1.heap.size w9 w10 := KN.call (KN.drew (KN.refl _ _)) hK10; have HP10 := Lib.hid hA10; clear hA10 hK10 HC)
        | fail)
      have HR10 := Lib.hid (HR9.out.kin hs10)
      have HA10 := Lib.hid (HA9.out.kin hs10)
      have HB10 : Hid (Below w.heap.size w w10) := Lib.hid (HB9.out.trans ((Kin.below hs10 (by have h9 := HP9.out.size; exact h9)).mono HB1.out.size))
      have HC10 := Lib.hid (copies_any _ _ g c w10 HP10.out (by show 3 ≤ 9; omega) (fun j hj => by
        rw [HR10.out.cell hj]
        rcases (show j = 0 ∨ j = 1 ∨ j = 2 by omega) with rfl | rfl | rfl <;> rfl))
      clear ra0 rl2 hs10 HP9 HR9 HA9 HB9
      go_wp2_with fail
      refine HC10.out.mono ?_
      rintro e w11 ⟨gc, cc, C, rfl, hC⟩
      have HP11 : Hid (PsL w1.heap.size w11 (lst12 P A B C bs x3 y1 (bs 2))) := Lib.hid hC.ps
      have HR11 := Lib.hid (HR10.out.below hC.below)
      have HA11 := Lib.hid (HA10.out.below hC.below)
      have hc2 := (show PtrsAt w11 gc cc C from ⟨⟨_, hC.row⟩⟩).cell (j := 2) (by omega)
      have HB11 := Lib.hid (below_trans HB10.out hC.below)
      clear hC HC10
      go_wp2_with fail
      have HI0 : Hid (JnI w1.heap.size w11 P A B C bs x3 y1 (bs 2) w11) := Lib.hid ⟨HP11.out, HU.out 2 (by omega), Kin.refl _ _⟩
      have HSZ11 : Hid (w1.heap.size ≤ w11.heap.size) := Lib.hid HP11.out.size
      clear HP11
      go_loopw [11] (fun i wr => ∃ (k : Nat) (z : Book), k ≤ no ∧ i = .int .i64 k ∧ Hid (JnI w1.heap.size w11 P A B C bs x3 y1 z wr)) (fun i _ => no - (intOf i).toNat)
      case atStart => exact ⟨0, _, Nat.zero_le _, rfl, HI0⟩
      case round =>
        obtain ⟨k, z, hk, rfl, HI⟩ := hrel
        by_cases hlt : k < no
        · obtain ⟨ob, oo, rfl, hcc⟩ := HOC.out (by rw [← HNO.out]; omega)
          have HBW : Hid (Below w.heap.size w wr) := Lib.hid (HB11.out.trans ((Kin.below HI.out.kin HSZ11.out).mono HB1.out.size))
          have c1 := keep_cell HBW.out (hcc k (by rw [← HNO.out]; exact hlt))
          have hy := HOV.out k (by rw [← HNO.out]; exact hlt)
          have HRW := Lib.hid (HR11.out.kin HI.out.kin)
          generalize order.getD k 0 = y at *
          clear hcc
          have hm0 : y.tmod 3 = y % 3 := Int.tmod_eq_emod_of_nonneg hy.1
          rcases (show y % 3 = 0 ∨ y % 3 = 1 ∨ y % 3 = 2 by omega) with hm | hm | hm
          · rw [hm] at hm0
            have d1 := HRW.out.cell (j := 0) (by omega)
            have HJ := Lib.hid (join_ok HI.out.ps (i := 11) (j := 0) (by show 11 < 12; omega) (by show 0 < 12; omega) (joinV_under HI.out.under (HU.out 0 (by omega))))
            have HI3 : Hid (∀ W, PsL w1.heap.size W (lst12 P A B C bs x3 y1 (joinL z (bs 0))) → Kin w1.heap.size wr W → JnI w1.heap.size w11 P A B C bs x3 y1 (joinL z (bs 0)) W) := Lib.hid (fun W h1 h2 => ⟨h1, joinL_under HI.out.under (HU.out 0 (by omega)), HI.out.kin.trans h2⟩)
            clear hm
            go_wp2_with fail
            refine HJ.out.mono ?_
            rintro e w12 ⟨rfl, hA, hK⟩
            have HI4 := Lib.hid (HI3.out w12 hA hK)
            clear hA hK
            go_wp2
            go_roundw
            case rel => exact ⟨k + 1, _, by omega, by go_num, HI4⟩
            case measure => simp [intOf]; omega
          · rw [hm] at hm0
            have d1 := HRW.out.cell (j := 1) (by omega)
            have HJ := Lib.hid (join_ok HI.out.ps (i := 11) (j := 1) (by show 11 < 12; omega) (by show 1 < 12; omega) (joinV_under HI.out.under (HU.out 1 (by omega))))
            have HI3 : Hid (∀ W, PsL w1.heap.size W (lst12 P A B C bs x3 y1 (joinL z (bs 1))) → Kin w1.heap.size wr W → JnI w1.heap.size w11 P A B C bs x3 y1 (joinL z (bs 1)) W) := Lib.hid (fun W h1 h2 => ⟨h1, joinL_under HI.out.under (HU.out 1 (by omega)), HI.out.kin.trans h2⟩)
            clear hm
            go_wp2_with fail
            refine HJ.out.mono ?_
            rintro e w12 ⟨rfl, hA, hK⟩
            have HI4 := Lib.hid (HI3.out w12 hA hK)
            clear hA hK
            go_wp2
            go_roundw
            case rel => exact ⟨k + 1, _, by omega, by go_num, HI4⟩
            case measure => simp [intOf]; omega
          · rw [hm] at hm0
            have d1 := HRW.out.cell (j := 2) (by omega)
            have HJ := Lib.hid (join_ok HI.out.ps (i := 11) (j := 2) (by show 11 < 12; omega) (by show 2 < 12; omega) (joinV_under HI.out.under (HU.out 2 (by omega))))
            have HI3 : Hid (∀ W, PsL w1.heap.size W (lst12 P A B C bs x3 y1 (joinL z (bs 2))) → Kin w1.heap.size wr W → JnI w1.heap.size w11 P A B C bs x3 y1 (joinL z (bs 2)) W) := Lib.hid (fun W h1 h2 => ⟨h1, joinL_under HI.out.under (HU.out 2 (by omega)), HI.out.kin.trans h2⟩)
            clear hm
            go_wp2_with fail
            refine HJ.out.mono ?_
            rintro e w12 ⟨rfl, hA, hK⟩
            have HI4 := Lib.hid (HI3.out w12 hA hK)
            clear hA hK
            go_wp2
            go_roundw
            case rel => exact ⟨k + 1, _, by omega, by go_num, HI4⟩
            case measure => simp [intOf]; omega
        · have e : k = no := by omega
          subst e
          have HI2 := HI
          clear HI
          go_wp2
          obtain ⟨wo, hwo⟩ : ∃ wo, wo = wr := ⟨_, rfl⟩
          subst hwo
          obtain ⟨zo, hzo⟩ : ∃ zo, zo = z := ⟨_, rfl⟩
          subst hzo
          go_loopw [12] (fun i wr => ∃ (k : Nat) (z : Book), k ≤ 3 ∧ i = .int .i64 ((k : Int) - 1) ∧ Hid (JnI w1.heap.size w11 P A B C bs x3 y1 z wr) ∧ Hid (∀ j, k ≤ j → j < 3 → ∀ q, q < 4 → (bs j q).length ≤ (z q).length)) (fun i _ => (intOf i + 1).toNat)
          case atStart => exact ⟨3, _, by omega, rfl, HI2, Lib.hid (fun j h1 h2 => by omega)⟩
          case round =>
            obtain ⟨m, z, hm3, rfl, HI, HG⟩ := hrel
            have HBW : Hid (Below w.heap.size w wr) := Lib.hid (HB11.out.trans ((Kin.below HI.out.kin HSZ11.out).mono HB1.out.size))
            have HRW := Lib.hid (HR11.out.kin HI.out.kin)
            rcases (show m = 0 ∨ m = 1 ∨ m = 2 ∨ m = 3 by omega) with rfl | rfl | rfl | rfl
            · rw [show ((0 : Nat) : Int) - 1 = -1 from rfl]
              have HA12 := Lib.hid (HA11.out.kin HI.out.kin)
              have d0 := HA12.out.cell (j := 0) (by omega)
              obtain ⟨z3, hz3⟩ : ∃ z3, z3 = joinL z x3 := ⟨_, rfl⟩
              have hv3 : joinV z x3 = (0, z3) := by rw [hz3]; exact joinV_under HI.out.under HU3.out
              have HJ := Lib.hid (join_ok HI.out.ps (i := 11) (j := 3) (by show 11 < 12; omega) (by show 3 < 12; omega) hv3)
              have HE : Hid (BookEq x3 z3) := Lib.hid (all_joined HU3.out (hz3 ▸ joinL_under HI.out.under HU3.out) HX3.out (fun j hj i hi => by
                rw [hz3, join_len]
                have := HG.out j (by omega) hj i hi
                omega))
              clear hz3 hv3
              go_wp2_with fail
              refine HJ.out.mono ?_
              rintro e w12 ⟨rfl, hA, hK⟩
              have HP12 : Hid (PsL w1.heap.size w12 (lst12 P A B C bs x3 y1 z3)) := Lib.hid hA
              have HOK : Hid (BookOk x3) := Lib.hid (PsL.ok HP12.out (i := 3) (by show 3 < 12; omega))
              have HB12 := Lib.hid (HBW.out.trans ((Kin.below hK (Nat.le_trans HSZ11.out HI.out.kin.size)).mono HB1.out.size))
              have d0 := (HA12.out.kin hK).cell (j := 0) (by omega)
              have HA12' := Lib.hid (HA12.out.kin hK)
              have HS := Lib.hid (same_l HP12.out (i := 3) (j := 11) (by show 3 < 12; omega) (by show 11 < 12; omega) (decide_eq_true HE.out.text))
              clear hA hK HJ
              go_wp2_with fail
              refine HS.out.mono ?_
              rintro e w13 ⟨rfl, hA, hK⟩
              have HP13 := Lib.hid hA
              have HB13 := Lib.hid (HB12.out.trans ((Kin.below hK HP12.out.size).mono HB1.out.size))
              have d0 := (HA12'.out.kin hK).cell (j := 0) (by omega)
              have HA13 := Lib.hid (HA12'.out.kin hK)
              have HS2 := Lib.hid (same_l HP13.out (i := 11) (j := 3) (by show 11 < 12; omega) (by show 3 < 12; omega) (decide_eq_true HE.out.text.symm))
              clear hA hK HS
              go_wp2_with fail
              refine HS2.out.mono ?_
              rintro e w14 ⟨rfl, hA, hK⟩
              have HP14 := Lib.hid hA
              have HB14 := Lib.hid (HB13.out.trans ((Kin.below hK HP13.out.size).mono HB1.out.size))
              have d0 := (HA13.out.kin hK).cell (j := 0) (by omega)
              have HA14 := Lib.hid (HA13.out.kin hK)
              obtain ⟨tb, htb⟩ : ∃ tb, tb = textB x3 := ⟨_, rfl⟩
              have HTB := Lib.hid htb
              have HT := Lib.hid (text_l HP14.out (i := 3) (by show 3 < 12; omega))
              rw [show textB (atL (lst12 P A B C bs x3 y1 z3) 3).2.2 = tb from htb.symm] at HT
              clear hA hK HS2 htb
              go_wp2_with fail
              refine HT.out.mono ?_
              rintro e w15 ⟨rfl, hA, hK⟩
              have HP15 := Lib.hid hA
              have HB15 := Lib.hid (HB14.out.trans ((Kin.below hK HP14.out.size).mono HB1.out.size))
              have d0 := (HA14.out.kin hK).cell (j := 0) (by omega)
              have HA15 := Lib.hid (HA14.out.kin hK)
              have HT2 := Lib.hid (text_l HP15.out (i := 11) (by show 11 < 12; omega))
              rw [show textB (atL (lst12 P A B C bs x3 y1 z3) 11).2.2 = tb from (HTB.out.trans HE.out.text).symm] at HT2
              clear hA hK HT
              go_wp2_with fail
              refine HT2.out.mono ?_
              rintro e w16 ⟨rfl, hA, hK⟩
              have HP16 := Lib.hid hA
              have HB16 := Lib.hid (HB15.out.trans ((Kin.below hK HP15.out.size).mono HB1.out.size))
              have d0 := (HA15.out.kin hK).cell (j := 0) (by omega)
              have HA16 := Lib.hid (HA15.out.kin hK)
              obtain ⟨cq, hcq⟩ : ∃ cq, cq = cntB x3 := ⟨_, rfl⟩
              have HCQ := Lib.hid hcq
              have HC := Lib.hid (count_l HP16.out (i := 3) (by show 3 < 12; omega))
              rw [show cntB (atL (lst12 P A B C bs x3 y1 z3) 3).2.2 = cq from hcq.symm] at HC
              clear hA hK HT2 hcq
              go_wp2_with fail
              refine HC.out.mono ?_
              rintro e w17 ⟨rfl, hA, hK⟩
              have HP17 := Lib.hid hA
              have HB17 := Lib.hid (HB16.out.trans ((Kin.below hK HP16.out.size).mono HB1.out.size))
              have d0 := (HA16.out.kin hK).cell (j := 0) (by omega)
              have HA17 := Lib.hid (HA16.out.kin hK)
              have HC2 := Lib.hid (count_l HP17.out (i := 11) (by show 11 < 12; omega))
              rw [show cntB (atL (lst12 P A B C bs x3 y1 z3) 11).2.2 = cq from (HCQ.out.trans HE.out.cnt).symm] at HC2
              clear hA hK HC
              go_wp2_with fail
              refine HC2.out.mono ?_
              rintro e w18 ⟨rfl, hA, hK⟩
              have HP18 := Lib.hid hA
              have HB18 := Lib.hid (HB17.out.trans ((Kin.below hK HP17.out.size).mono HB1.out.size))
              have d0 := (HA17.out.kin hK).cell (j := 0) (by omega)
              have HA18 := Lib.hid (HA17.out.kin hK)
              have heq := seen_self HOK.out
              have HN := Lib.hid (seen_l HP18.out (i := 3) (by show 3 < 12; omega))
              rw [show seenV (atL (lst12 P A B C bs x3 y1 z3) 3).2.2 = seenV x3 from rfl] at HN
              unfold seenV at heq HN
              clear hA hK HC2
              go_wp2_with fail
              refine HN.out.mono ?_
              rintro e w19 ⟨rfl, hA, hK⟩
              have HP19 := Lib.hid hA
              have HB19 := Lib.hid (HB18.out.trans ((Kin.below hK HP18.out.size).mono HB1.out.size))
              have HN2 := Lib.hid (seen_l HP19.out (i := 11) (by show 11 < 12; omega))
              rw [show seenV (atL (lst12 P A B C bs x3 y1 z3) 11).2.2 = seenV x3 from (seen_eq HE.out).symm] at HN2
              unfold seenV at HN2
              clear hA hK HN
              go_wp2_with fail
              refine HN2.out.mono ?_
              rintro e w20 ⟨rfl, hA, hK⟩
              have HP20 := Lib.hid hA
              have HB20 := Lib.hid (HB19.out.trans ((Kin.below hK HP19.out.size).mono HB1.out.size))
              clear hA hK HN2
              go_wp2_with fail
              refine (sane_l HP20.out).mono ?_
              rintro e w21 ⟨rfl, hA, hK⟩
              have HB21 := Lib.hid (HB20.out.trans ((Kin.below hK HP20.out.size).mono HB1.out.size))
              clear hA hK
              go_wp2
              go_ret
              exact ⟨rfl, HB21.out⟩
            · rw [show ((1 : Nat) : Int) - 1 = 0 from rfl]
              have d1 := HRW.out.cell (j := 0) (by omega)
              have HJ := Lib.hid (join_ok HI.out.ps (i := 11) (j := 0) (by show 11 < 12; omega) (by show 0 < 12; omega) (joinV_under HI.out.under (HU.out 0 (by omega))))
              have HUZ : Hid (Under (masters bs) (joinL z (bs 0))) := Lib.hid (joinL_under HI.out.under (HU.out 0 (by omega)))
              go_wp2_with fail
              refine HJ.out.mono ?_
              rintro e w12 ⟨rfl, hA, hK⟩
              have HP12 : Hid (PsL w1.heap.size w12 (lst12 P A B C bs x3 y1 (joinL z (bs 0)))) := Lib.hid hA
              have HK12 := Lib.hid (HI.out.kin.trans hK)
              clear hA hK HJ
              go_wp2_with fail
              refine (copy_l HP12.out (i := 11) (by show 11 < 12; omega)).mono ?_
              rintro e w13 ⟨pc, rfl, hA, hK⟩
              have HP13 := Lib.hid hA
              have HK13 := Lib.hid (HK12.out.trans hK)
              have HJ := Lib.hid (join_ok hA (i := 11) (j := 12) (by show 11 < 13; omega) (by show 12 < 13; omega) (joinV_under HUZ.out HUZ.out))
              clear hA hK
              go_wp2_with fail
              refine HJ.out.mono ?_
              rintro e w14 ⟨rfl, hA, hK⟩
              have HI4 : Hid (JnI w1.heap.size w11 P A B C bs x3 y1 (joinL (joinL z (bs 0)) (joinL z (bs 0))) w14) := Lib.hid ⟨PsL.first (l := lst12 P A B C bs x3 y1 (joinL (joinL z (bs 0)) (joinL z (bs 0)))) (r := [(pc, 2, joinL z (bs 0))]) hA, joinL_under HUZ.out HUZ.out, HK13.out.trans hK⟩
              have HG4 : Hid (∀ j, 0 ≤ j → j < 3 → ∀ q, q < 4 → (bs j q).length ≤ (joinL (joinL z (bs 0)) (joinL z (bs 0)) q).length) := Lib.hid (fun j h1 h2 q hq => by
                rw [join_len, join_len]
                by_cases e : j = 0
                · subst e; omega
                · have := HG.out j (by omega) h2 q hq; omega)
              clear hA hK HJ HP12 HP13 HK12 HK13
              go_wp2
              go_roundw
              case rel => exact ⟨0, _, by omega, rfl, HI4, HG4⟩
              case measure => simp [intOf]
            · rw [show ((2 : Nat) : Int) - 1 = 1 from rfl]
              have d1 := HRW.out.cell (j := 1) (by omega)
              have HJ := Lib.hid (join_ok HI.out.ps (i := 11) (j := 1) (by show 11 < 12; omega) (by show 1 < 12; omega) (joinV_under HI.out.under (HU.out 1 (by omega))))
              have HUZ : Hid (Under (masters bs) (joinL z (bs 1))) := Lib.hid (joinL_under HI.out.under (HU.out 1 (by omega)))
              go_wp2_with fail
              refine HJ.out.mono ?_
              rintro e w12 ⟨rfl, hA, hK⟩
              have HP12 : Hid (PsL w1.heap.size w12 (lst12 P A B C bs x3 y1 (joinL z (bs 1)))) := Lib.hid hA
              have HK12 := Lib.hid (HI.out.kin.trans hK)
              clear hA hK HJ
              go_wp2_with fail
              refine (copy_l HP12.out (i := 11) (by show 11 < 12; omega)).mono ?_
              rintro e w13 ⟨pc, rfl, hA, hK⟩
              have HP13 := Lib.hid hA
              have HK13 := Lib.hid (HK12.out.trans hK)
              have HJ := Lib.hid (join_ok hA (i := 11) (j := 12) (by show 11 < 13; omega) (by show 12 < 13; omega) (joinV_under HUZ.out HUZ.out))
              clear hA hK
              go_wp2_with fail
              refine HJ.out.mono ?_
              rintro e w14 ⟨rfl, hA, hK⟩
              have HI4 : Hid (JnI w1.heap.size w11 P A B C bs x3 y1 (joinL (joinL z (bs 1)) (joinL z (bs 1))) w14) := Lib.hid ⟨PsL.first (l := lst12 P A B C bs x3 y1 (joinL (joinL z (bs 1)) (joinL z (bs 1)))) (r := [(pc, 2, joinL z (bs 1))]) hA, joinL_under HUZ.out HUZ.out, HK13.out.trans hK⟩
              have HG4 : Hid (∀ j, 1 ≤ j → j < 3 → ∀ q, q < 4 → (bs j q).length ≤ (joinL (joinL z (bs 1)) (joinL z (bs 1)) q).length) := Lib.hid (fun j h1 h2 q hq => by
                rw [join_len, join_len]
                by_cases e : j = 1
                · subst e; omega
                · have := HG.out j (by omega) h2 q hq; omega)
              clear hA hK HJ HP12 HP13 HK12 HK13
              go_wp2
              go_roundw
              case rel => exact ⟨1, _, by omega, rfl, HI4, HG4⟩
              case measure => simp [intOf]
            · rw [show ((3 : Nat) : Int) - 1 = 2 from rfl]
              have d1 := HRW.out.cell (j := 2) (by omega)
              have HJ := Lib.hid (join_ok HI.out.ps (i := 11) (j := 2) (by show 11 < 12; omega) (by show 2 < 12; omega) (joinV_under HI.out.under (HU.out 2 (by omega))))
              have HUZ : Hid (Under (masters bs) (joinL z (bs 2))) := Lib.hid (joinL_under HI.out.under (HU.out 2 (by omega)))
              go_wp2_with fail
              refine HJ.out.mono ?_
              rintro e w12 ⟨rfl, hA, hK⟩
              have HP12 : Hid (PsL w1.heap.size w12 (lst12 P A B C bs x3 y1 (joinL z (bs 2)))) := Lib.hid hA
              have HK12 := Lib.hid (HI.out.kin.trans hK)
              clear hA hK HJ
              go_wp2_with fail
              refine (copy_l HP12.out (i := 11) (by show 11 < 12; omega)).mono ?_
              rintro e w13 ⟨pc, rfl, hA, hK⟩
              have HP13 := Lib.hid hA
              have HK13 := Lib.hid (HK12.out.trans hK)
              have HJ := Lib.hid (join_ok hA (i := 11) (j := 12) (by show 11 < 13; omega) (by show 12 < 13; omega) (joinV_under HUZ.out HUZ.out))
              clear hA hK
              go_wp2_with fail
              refine HJ.out.mono ?_
              rintro e w14 ⟨rfl, hA, hK⟩
              have HI4 : Hid (JnI w1.heap.size w11 P A B C bs x3 y1 (joinL (joinL z (bs 2)) (joinL z (bs 2))) w14) := Lib.hid ⟨PsL.first (l := lst12 P A B C bs x3 y1 (joinL (joinL z (bs 2)) (joinL z (bs 2)))) (r := [(pc, 2, joinL z (bs 2))]) hA, joinL_under HUZ.out HUZ.out, HK13.out.trans hK⟩
              have HG4 : Hid (∀ j, 2 ≤ j → j < 3 → ∀ q, q < 4 → (bs j q).length ≤ (joinL (joinL z (bs 2)) (joinL z (bs 2)) q).length) := Lib.hid (fun j h1 h2 q hq => by
                rw [join_len, join_len]
                by_cases e : j = 2
                · subst e; omega
                · have := HG.out j (by omega) h2 q hq; omega)
              clear hA hK HJ HP12 HP13 HK12 HK13
              go_wp2
              go_roundw
              case rel => exact ⟨2, _, by omega, rfl, HI4, HG4⟩
              case measure => simp [intOf]
end Go.Proofs.YtdfkaijeppdhaaaGreatDoor

/- Texts of this claim, laid together: Lh. -/
import Derived.Test.YtdfkaijeppdhaaaGreatDoorZHq44
import Derived.Test.YtdfkaijeppdhaaaGreatDoorZHq45
import Derived.Test.YtdfkaijeppdhaaaGreatDoorZHq38
import Derived.Deep.DeepCutAuto

/- The law PostHears. -/
namespace Go.Proofs.YtdfkaijeppdhaaaGreatDoor
open Go.RowKit Go.Shelf
theorem seen_h {base : Nat} {w : World} {l : List PB} (h : PsL base w l) {i : Nat} (hi : i < l.length) : Calls Tryz.prog 21 #[.pointer (some ⟨(atL l i).1, 0, none⟩)] w fun e w' => e = .returned (.agg #[.int .i64 (((atL l i).2.2 0).length : Int), .int .i64 (((atL l i).2.2 1).length : Int), .int .i64 (((atL l i).2.2 2).length : Int), .int .i64 (((atL l i).2.2 3).length : Int)]) ∧ Below w.heap.size w w' := by
  obtain ⟨F, h1, _, _⟩ := PsAt.post h hi
  exact seen_post _ _ _ _ w h1 (PsAt.ok h hi)
theorem textB_size {b : Book} (hb : BookOk b) : (textB b).size ≤ 48000 := by
  have h1 := textL_len (l := allB b) (fun e he => lineT_small ⟨(book_bounds hb he).1, (book_bounds hb he).2.1, (book_bounds hb he).2.2.1⟩ (book_bounds hb he).2.2.2)
  have h2 : (allB b).length ≤ 240 := by rw [allB_len]; exact lenB_le hb
  rw [ba_size]
  show (textL (allB b)).length ≤ 48000
  omega
theorem same_b {base : Nat} {w : World} {l : List PB} (h : PsL base w l) {i j : Nat} (hi : i < l.length) (hj : j < l.length) {q : Bool} (hq : decide (textB (atL l i).2.2 = textB (atL l j).2.2) = q) : Calls Tryz.prog 37 #[.pointer (some ⟨(atL l i).1, 0, none⟩), .pointer (some ⟨(atL l j).1, 0, none⟩)] w fun e w' => e = .returned (.bool q) ∧ Below w.heap.size w w' := by
  subst hq
  obtain ⟨F, h1, _, _⟩ := PsAt.post h hi
  obtain ⟨F2, h2, _, _⟩ := PsAt.post h hj
  exact same_post _ _ F _ _ _ F2 _ w h1 h2 (PsAt.ok h hi) (PsAt.ok h hj) h.vars
theorem book_n {base : Nat} {w : World} {l : List PB} (h : PsL base w l) {i n : Nat} (hi : i < l.length) (hn : (allB (atL l i).2.2).length = n) : Calls Tryz.prog 25 #[.pointer (some ⟨(atL l i).1, 0, none⟩)] w fun e w' => ∃ a c, e = .returned (.slice a n c) ∧ Below w.heap.size w w' := by
  subst hn
  refine (book_b h hi).mono ?_
  rintro e w' ⟨v, rfl, hl, _, hb⟩
  obtain ⟨a, c, rfl⟩ := own_shape hl
  exact ⟨a, c, rfl, hb⟩
set_option maxRecDepth 100000 in
set_option maxHeartbeats 16000000 in
theorem PostHears_walk (v : Value) (lines : List ByteArray) (n : Int) (line : ByteArray) (w : World) (hL : StrsIn w v lines) (_hn : (Lit.int .u32 n).wf = true) (hs : line.size ≤ maxLen) (hV : Vars w) :
    Calls Tryz.prog 12 #[v, .int .u32 n, .string line] w (BoolPost true w) := by
  have HVR := Lib.hid hV
  have HLG := Lib.hid (long_any v lines 24 w hL)
  have HWR := Lib.hid (fun W (hW : Below w.heap.size w W) (h1 : ∀ s ∈ lines, s.size ≤ 200) (h2 : lines.length ≤ 30) => written_any v lines n W (hL.at_.below hW) h1 h2 (HVR.out.below hW))
  obtain ⟨la, lc, rfl, hc⟩ := hL.at_
  have hs2 : (line.size : Int) ≤ 9223372036854775807 := by unfold maxLen at hs; omega
  clear hc hL hV hs
  cases hlong : longB lines 24 with
  | true =>
    rw [hlong] at HLG
    clear hlong
    go_enter Tryz.func12, Tryz.ntmps12
    go_wp2_with fail
    refine HLG.out.mono ?_
    rintro e w1 ⟨rfl, hb1⟩
    have HB1 := Lib.hid hb1
    clear hb1
    go_wp2_with fail
    refine (sane_any _ (HVR.out.below HB1.out)).mono ?_
    rintro e w2 ⟨rfl, hb2⟩
    have HB2 := Lib.hid (below_trans HB1.out hb2)
    clear hb2
    go_wp2
    go_ret
    exact ⟨rfl, HB2.out⟩
  | false =>
    rw [hlong] at HLG
    by_cases h200 : 200 < (line.size : Int)
    · clear hlong
      go_enter Tryz.func12, Tryz.ntmps12
      go_wp2_with fail
      refine HLG.out.mono ?_
      rintro e w1 ⟨rfl, hb1⟩
      have HB1 := Lib.hid hb1
      clear hb1
      go_wp2_with fail
      refine (sane_any _ (HVR.out.below HB1.out)).mono ?_
      rintro e w2 ⟨rfl, hb2⟩
      have HB2 := Lib.hid (below_trans HB1.out hb2)
      clear hb2
      go_wp2
      go_ret
      exact ⟨rfl, HB2.out⟩
    · obtain ⟨hsz, hlen⟩ := longB_no hlong
      have HFS := Lib.hid hsz
      have HFL := Lib.hid (show lines.length ≤ 30 by omega)
      have HLS := Lib.hid (show line.size ≤ 1000000 by omega)
      clear hlong hsz hlen
      go_enter Tryz.func12, Tryz.ntmps12
      go_wp2_with fail
      refine HLG.out.mono ?_
      rintro e w1 ⟨rfl, hb1⟩
      have HW2 := Lib.hid (HWR.out w1 hb1 HFS.out HFL.out)
      have HB1 := Lib.hid hb1
      clear hb1
      go_wp2_with fail
      refine HW2.out.mono ?_
      rintro e w2 ⟨g, c, P, bs, rfl, hJ⟩
      have HSY := Lib.hid hJ.sys
      have HP2 : Hid (PsL w1.heap.size w2 [(P 0, 0, bs 0), (P 1, 1, bs 1), (P 2, 2, bs 2)]) := Lib.hid (hJ.ps.congr fun i hi => by
        rcases (show i = 0 ∨ i = 1 ∨ i = 2 by omega) with rfl | rfl | rfl <;> exact ⟨rfl, rfl, rfl⟩)
      have HR2 : Hid (PtrsAt w2 g c P) := Lib.hid ⟨⟨_, hJ.row⟩⟩
      have HB2 := Lib.hid (below_trans HB1.out hJ.below)
      have hnl : ∀ W, (binOp .eql 31 (.slice (some ⟨g, 0, none⟩) 3 c) (.slice none 0 0)).run Tryz.prog W = .ok (.bool false) W := fun W => slice_nil W g c
      clear hJ HW2
      have da : ∀ W, KN w1.heap.size w2 W → W.cell? ⟨g, 0, none⟩ = some (.pointer (some ⟨P 0, 0, none⟩)) := fun W hW => HR2.out.hold hW (by omega)
      have hHeld : KN w1.heap.size w2 w2.drew := KN.drew (KN.refl _ _)
      have HPd := Lib.hid HP2.out.drew
      go_wp2_with fail
      refine wp_region_held_drew (S := KN w1.heap.size w2) (by kernel_rfl) hHeld (fun hHeld => ?_)
      refine takeZ (i := 0) rfl (by kernel_rfl) (by kernel_rfl) (by kernel_rfl) (by first | exact fun _ _ _ _ h => h | exact fun _ _ _ _ h => nomatch h.1) (by rfl) hHeld ?_
      apply Exists.intro
      apply And.intro
      · intro W3 hS3
        go_simp
        try rfl
      try simp only [Act.put, List.getElem_toArray, List.getElem_cons_zero, List.getElem_cons_succ, List.setIfInBounds_toArray, List.set_cons_zero, List.set_cons_succ]
      refine takeZ (i := 1) rfl (by kernel_rfl) (by kernel_rfl) (by kernel_rfl) (by first | exact fun _ _ _ _ h => h | exact fun _ _ _ _ h => nomatch h.1) (by rfl) hHeld ?_
      apply Exists.intro
      apply And.intro
      · intro W3 hS3
        go_simp
        try rfl
      try simp only [Act.put, List.getElem_toArray, List.getElem_cons_zero, List.getElem_cons_succ, List.setIfInBounds_toArray, List.set_cons_zero, List.set_cons_succ]
      refine takeZ (i := 2) rfl (by kernel_rfl) (by kernel_rfl) (by kernel_rfl) (by first | exact fun _ _ _ _ h => h | exact fun _ _ _ _ h => nomatch h.1) (by rfl) hHeld ?_
      apply Exists.intro
      apply And.intro
      · intro W3 hS3
        go_simp
        try rfl
      try simp only [Act.put, List.getElem_toArray, List.getElem_cons_zero, List.getElem_cons_succ, List.setIfInBounds_toArray, List.set_cons_zero, List.set_cons_succ]
      refine takeZ (i := 4) rfl (by kernel_rfl) (by kernel_rfl) (by kernel_rfl) (by first | exact fun _ _ _ _ h => h | exact fun _ _ _ _ h => nomatch h.1) (by rfl) hHeld ?_
      apply Exists.intro
      apply And.intro
      · intro W3 hS3
        go_simp
        try rfl
      try simp only [Act.put, List.getElem_toArray, List.getElem_cons_zero, List.getElem_cons_succ, List.setIfInBounds_toArray, List.set_cons_zero, List.set_cons_succ]
      refine takeZ (i := 5) rfl (by kernel_rfl) (by kernel_rfl) (by kernel_rfl) (by first | exact fun _ _ _ _ h => h | exact fun _ _ _ _ h => nomatch h.1) (by rfl) hHeld ?_
      apply Exists.intro
      apply And.intro
      · intro W3 hS3
        go_simp
        try rfl
      try simp only [Act.put, List.getElem_toArray, List.getElem_cons_zero, List.getElem_cons_succ, List.setIfInBounds_toArray, List.set_cons_zero, List.set_cons_succ]
      refine takeZ (i := 6) rfl (by kernel_rfl) (by kernel_rfl) (by kernel_rfl) (by first | exact fun _ _ _ _ h => h | exact fun _ _ _ _ h => nomatch h.1) (by rfl) hHeld ?_
      apply Exists.intro
      apply And.intro
      · intro W3 hS3
        go_simp
        try rfl
      try simp only [Act.put, List.getElem_toArray, List.getElem_cons_zero, List.getElem_cons_succ, List.setIfInBounds_toArray, List.set_cons_zero, List.set_cons_succ]
      refine wpAnyH_ready (rs := [3]) (by kernel_rfl) (by simp) ?_
      refine (AllReadyH.cons rfl (fun K hK => ?_) AllReadyH.nil)
      go_simp
      refine (copy_l HPd.out (i := 0) (by show 0 < 3; omega)).mono ?_
      rintro e w3 ⟨A, rfl, hA, hK2⟩
      have hk2 := KN.call hHeld hK2
      dsimp only
      refine hK.out _ _ hk2 (fun hHeld => ?_)
      clear hK K hk2
      try simp only [Act.put, List.getElem_toArray, List.getElem_cons_zero, List.getElem_cons_succ, List.setIfInBounds_toArray, List.set_cons_zero, List.set_cons_succ]
      have HP3 : Hid (PsL w1.heap.size w3 [(P 0, 0, bs 0), (P 1, 1, bs 1), (P 2, 2, bs 2), (A, 0, bs 0)]) := Lib.hid hA
      clear hA hK2
      refine wpAnyH_ready (rs := [7]) (by kernel_rfl) (by simp) ?_
      refine (AllReadyH.cons rfl (fun K hK => ?_) AllReadyH.nil)
      go_simp
      refine (copy_l HP3.out (i := 0) (by show 0 < 4; omega)).mono ?_
      rintro e w4 ⟨B, rfl, hA, hK2⟩
      have hk2 := KN.call hHeld hK2
      dsimp only
      refine hK.out _ _ hk2 (fun hHeld => ?_)
      clear hK K hk2
      try simp only [Act.put, List.getElem_toArray, List.getElem_cons_zero, List.getElem_cons_succ, List.setIfInBounds_toArray, List.set_cons_zero, List.set_cons_succ]
      have HP4 : Hid (PsL w1.heap.size w4 [(P 0, 0, bs 0), (P 1, 1, bs 1), (P 2, 2, bs 2), (A, 0, bs 0), (B, 0, bs 0)]) := Lib.hid hA
      clear hA hK2
      refine takeZ (i := 8) rfl (by kernel_rfl) (by kernel_rfl) (by kernel_rfl) (by first | exact fun _ _ _ _ h => h | exact fun _ _ _ _ h => nomatch h.1) (by rfl) hHeld ?_
      apply Exists.intro
      apply And.intro
      · intro W3 hS3
        go_simp
        try rfl
      try simp only [Act.put, List.getElem_toArray, List.getElem_cons_zero, List.getElem_cons_succ, List.setIfInBounds_toArray, List.set_cons_zero, List.set_cons_succ]
      refine takeZ (i := 9) rfl (by kernel_rfl) (by kernel_rfl) (by kernel_rfl) (by first | exact fun _ _ _ _ h => h | exact fun _ _ _ _ h => nomatch h.1) (by rfl) hHeld ?_
      apply Exists.intro
      apply And.intro
      · intro W3 hS3
        go_simp
        try rfl
      try simp only [Act.put, List.getElem_toArray, List.getElem_cons_zero, List.getElem_cons_succ, List.setIfInBounds_toArray, List.set_cons_zero, List.set_cons_succ]
      refine wpAnyH_done (by kernel_rfl) ?_ _
      simp only [Exit.then]
      have HK4 := Lib.hid hHeld
      clear hHeld
      have HB4 := Lib.hid (HB2.out.trans ((Kin.below HK4.out HP2.out.size).mono HB1.out.size))
      have HR4 := Lib.hid (HR2.out.kin HK4.out)
      clear da HP3 HPd
      have da : ∀ W, KN w1.heap.size w4 W → W.cell? ⟨g, 0, none⟩ = some (.pointer (some ⟨P 0, 0, none⟩)) := fun W hW => HR4.out.hold hW (by omega)
      have db : ∀ W, KN w1.heap.size w4 W → W.cell? ⟨g, 1, none⟩ = some (.pointer (some ⟨P 1, 0, none⟩)) := fun W hW => HR4.out.hold hW (by omega)
      have hHeld : KN w1.heap.size w4 w4.drew := KN.drew (KN.refl _ _)
      have HPd := Lib.hid HP4.out.drew
      go_wp2_with fail
      refine wp_region_held_drew (S := KN w1.heap.size w4) (by kernel_rfl) hHeld (fun hHeld => ?_)
      refine takeZ (i := 0) rfl (by kernel_rfl) (by kernel_rfl) (by kernel_rfl) (by first | exact fun _ _ _ _ h => h | exact fun _ _ _ _ h => nomatch h.1) (by rfl) hHeld ?_
      apply Exists.intro
      apply And.intro
      · intro W3 hS3
        go_simp
        try rfl
      try simp only [Act.put, List.getElem_toArray, List.getElem_cons_zero, List.getElem_cons_succ, List.setIfInBounds_toArray, List.set_cons_zero, List.set_cons_succ]
      refine takeZ (i := 1) rfl (by kernel_rfl) (by kernel_rfl) (by kernel_rfl) (by first | exact fun _ _ _ _ h => h | exact fun _ _ _ _ h => nomatch h.1) (by rfl) hHeld ?_
      apply Exists.intro
      apply And.intro
      · intro W3 hS3
        go_simp
        try rfl
      try simp only [Act.put, List.getElem_toArray, List.getElem_cons_zero, List.getElem_cons_succ, List.setIfInBounds_toArray, List.set_cons_zero, List.set_cons_succ]
      refine takeZ (i := 2) rfl (by kernel_rfl) (by kernel_rfl) (by kernel_rfl) (by first | exact fun _ _ _ _ h => h | exact fun _ _ _ _ h => nomatch h.1) (by rfl) hHeld ?_
      apply Exists.intro
      apply And.intro
      · intro W3 hS3
        go_simp
        try rfl
      try simp only [Act.put, List.getElem_toArray, List.getElem_cons_zero, List.getElem_cons_succ, List.setIfInBounds_toArray, List.set_cons_zero, List.set_cons_succ]
      refine takeZ (i := 3) rfl (by kernel_rfl) (by kernel_rfl) (by kernel_rfl) (by first | exact fun _ _ _ _ h => h | exact fun _ _ _ _ h => nomatch h.1) (by rfl) hHeld ?_
      apply Exists.intro
      apply And.intro
      · intro W3 hS3
        go_simp
        try rfl
      try simp only [Act.put, List.getElem_toArray, List.getElem_cons_zero, List.getElem_cons_succ, List.setIfInBounds_toArray, List.set_cons_zero, List.set_cons_succ]
      refine takeZ (i := 4) rfl (by kernel_rfl) (by kernel_rfl) (by kernel_rfl) (by first | exact fun _ _ _ _ h => h | exact fun _ _ _ _ h => nomatch h.1) (by rfl) hHeld ?_
      apply Exists.intro
      apply And.intro
      · intro W3 hS3
        go_simp
        try rfl
      try simp only [Act.put, List.getElem_toArray, List.getElem_cons_zero, List.getElem_cons_succ, List.setIfInBounds_toArray, List.set_cons_zero, List.set_cons_succ]
      refine takeZ (i := 5) rfl (by kernel_rfl) (by kernel_rfl) (by kernel_rfl) (by first | exact fun _ _ _ _ h => h | exact fun _ _ _ _ h => nomatch h.1) (by rfl) hHeld ?_
      apply Exists.intro
      apply And.intro
      · intro W3 hS3
        go_simp
        try rfl
      try simp only [Act.put, List.getElem_toArray, List.getElem_cons_zero, List.getElem_cons_succ, List.setIfInBounds_toArray, List.set_cons_zero, List.set_cons_succ]
      refine wpAnyH_ready (rs := [6]) (by kernel_rfl) (by simp) ?_
      refine (AllReadyH.cons rfl (fun K hK => ?_) AllReadyH.nil)
      go_simp
      refine (seen_h HPd.out (i := 0) (by show 0 < 5; omega)).mono ?_
      rintro e w5 ⟨rfl, hb⟩
      have hk2 := KN.call hHeld (Kin.of_below hb)
      dsimp only
      refine hK.out _ _ hk2 (fun hHeld => ?_)
      clear hK K hk2
      try simp only [Act.put, List.getElem_toArray, List.getElem_cons_zero, List.getElem_cons_succ, List.setIfInBounds_toArray, List.set_cons_zero, List.set_cons_succ]
      have HP5 := Lib.hid (HPd.out.below hb)
      clear hb
      refine wpAnyH_ready (rs := [7]) (by kernel_rfl) (by simp) ?_
      refine (AllReadyH.cons rfl (fun K hK => ?_) AllReadyH.nil)
      go_simp
      refine (since_b HP5.out (i := 1) (by show 1 < 5; omega) _ _ _ _ (fun i => ((bs 0 i).length : Int)) ⟨rfl, rfl, rfl, rfl⟩).mono ?_
      rintro e w6 ⟨nv, rfl, hl, _, hb⟩
      have hk2 := KN.call hHeld (Kin.of_below hb)
      dsimp only
      refine hK.out _ _ hk2 (fun hHeld => ?_)
      clear hK K hk2
      try simp only [Act.put, List.getElem_toArray, List.getElem_cons_zero, List.getElem_cons_succ, List.setIfInBounds_toArray, List.set_cons_zero, List.set_cons_succ]
      obtain ⟨na, nc, rfl⟩ := own_shape hl
      have HP6 := Lib.hid (HP5.out.below hb)
      have HN6 : Hid ((sinceB (atL [(P 0, 0, bs 0), (P 1, 1, bs 1), (P 2, 2, bs 2), (A, 0, bs 0), (B, 0, bs 0)] 1).2.2 fun i => ((bs 0 i).length : Int)).length = (sinceB (bs 1) fun i => ((bs 0 i).length : Int)).length) := Lib.hid rfl
      rw [HN6.out]
      clear hb hl HN6
      refine takeZ (i := 8) rfl (by kernel_rfl) (by kernel_rfl) (by kernel_rfl) (by first | exact fun _ _ _ _ h => h | exact fun _ _ _ _ h => nomatch h.1) (by rfl) hHeld ?_
      apply Exists.intro
      apply And.intro
      · intro W3 hS3
        go_simp
        try rfl
      try simp only [Act.put, List.getElem_toArray, List.getElem_cons_zero, List.getElem_cons_succ, List.setIfInBounds_toArray, List.set_cons_zero, List.set_cons_succ]
      refine wpAnyH_done (by kernel_rfl) ?_ _
      simp only [Exit.then]
      have HK6 := Lib.hid hHeld
      clear hHeld da db HPd HP5
      have HB6 := Lib.hid (HB4.out.trans ((Kin.below HK6.out HP4.out.size).mono HB1.out.size))
      have HR6 := Lib.hid (HR4.out.kin HK6.out)
      have hu0 : Under (masters bs) (bs 0) := HSY.out.under (by omega)
      have hu1 : Under (masters bs) (bs 1) := HSY.out.under (by omega)
      obtain ⟨ab, hab⟩ : ∃ ab, ab = joinL (bs 0) (bs 1) := ⟨_, rfl⟩
      have hv1 : joinV (bs 0) (bs 1) = (0, ab) := by rw [hab]; exact joinV_under hu0 hu1
      obtain ⟨bb, hv2, hbe⟩ := hear_under hu0 hu1 (HSY.out.ok 1 (by omega))
      rw [← hab] at hbe
      have HV2 := Lib.hid hv2
      have HBE := Lib.hid hbe
      have HTE : Hid (decide (textB ab = textB bb) = true) := Lib.hid (decide_eq_true hbe.symm.text)
      obtain ⟨nn, hnn⟩ : ∃ nn, nn = (sinceB (bs 1) fun i => ((bs 0 i).length : Int)).length := ⟨_, rfl⟩
      obtain ⟨n0, hn0⟩ : ∃ n0, n0 = (allB (bs 0)).length := ⟨_, rfl⟩
      have HN0 : Hid ((allB (bs 0)).length = n0) := Lib.hid hn0.symm
      have HNA : Hid ((allB ab).length = n0 + nn) := Lib.hid (by rw [allB_len, hab, since_join, hn0, allB_len, hnn])
      have HOKA : Hid (BookOk ab) := Lib.hid (by rw [hab]; exact joinL_ok (HSY.out.ok 0 (by omega)) (HSY.out.ok 1 (by omega)))
      have HNL : Hid (n0 + nn ≤ 240) := Lib.hid (by rw [← HNA.out, allB_len]; exact lenB_le HOKA.out)
      have hws : IntKind.i64.wrap ((n0 : Int) + (nn : Int)) = (n0 : Int) + (nn : Int) := IntWalk.i64_in _ (by have := HNL.out; omega)
      have HV1 := Lib.hid hv1
      rw [← hnn]
      clear hab hv1 hv2 hbe hnn hn0 hu0 hu1
      have da : ∀ W, KN w1.heap.size w6 W → W.cell? ⟨g, 0, none⟩ = some (.pointer (some ⟨P 0, 0, none⟩)) := fun W hW => HR6.out.hold hW (by omega)
      have db : ∀ W, KN w1.heap.size w6 W → W.cell? ⟨g, 1, none⟩ = some (.pointer (some ⟨P 1, 0, none⟩)) := fun W hW => HR6.out.hold hW (by omega)
      have hHeld : KN w1.heap.size w6 w6.drew := KN.drew (KN.refl _ _)
      have HPd := Lib.hid HP6.out.drew
      go_wp2_with fail
      refine wp_region_held_drew (S := KN w1.heap.size w6) (by kernel_rfl) hHeld (fun hHeld => ?_)
      refine takeZ (i := 0) rfl (by kernel_rfl) (by kernel_rfl) (by kernel_rfl) (by first | exact fun _ _ _ _ h => h | exact fun _ _ _ _ h => nomatch h.1) (by rfl) hHeld ?_
      apply Exists.intro
      apply And.intro
      · intro W3 hS3
        go_simp
        try rfl
      try simp only [Act.put, List.getElem_toArray, List.getElem_cons_zero, List.getElem_cons_succ, List.setIfInBounds_toArray, List.set_cons_zero, List.set_cons_succ]
      refine takeZ (i := 1) rfl (by kernel_rfl) (by kernel_rfl) (by kernel_rfl) (by first | exact fun _ _ _ _ h => h | exact fun _ _ _ _ h => nomatch h.1) (by rfl) hHeld ?_
      apply Exists.intro
      apply And.intro
      · intro W3 hS3
        go_simp
        try rfl
      try simp only [Act.put, List.getElem_toArray, List.getElem_cons_zero, List.getElem_cons_succ, List.setIfInBounds_toArray, List.set_cons_zero, List.set_cons_succ]
      refine takeZ (i := 2) rfl (by kernel_rfl) (by kernel_rfl) (by kernel_rfl) (by first | exact fun _ _ _ _ h => h | exact fun _ _ _ _ h => nomatch h.1) (by rfl) hHeld ?_
      apply Exists.intro
      apply And.intro
      · intro W3 hS3
        go_simp
        try rfl
      try simp only [Act.put, List.getElem_toArray, List.getElem_cons_zero, List.getElem_cons_succ, List.setIfInBounds_toArray, List.set_cons_zero, List.set_cons_succ]
      refine takeZ (i := 3) rfl (by kernel_rfl) (by kernel_rfl) (by kernel_rfl) (by first | exact fun _ _ _ _ h => h | exact fun _ _ _ _ h => nomatch h.1) (by rfl) hHeld ?_
      apply Exists.intro
      apply And.intro
      · intro W3 hS3
        go_simp
        try rfl
      try simp only [Act.put, List.getElem_toArray, List.getElem_cons_zero, List.getElem_cons_succ, List.setIfInBounds_toArray, List.set_cons_zero, List.set_cons_succ]
      refine wpAnyH_ready (rs := [4]) (by kernel_rfl) (by simp) ?_
      refine (AllReadyH.cons rfl (fun K hK => ?_) AllReadyH.nil)
      go_simp
      refine (join_ok HPd.out (i := 3) (j := 1) (by show 3 < 5; omega) (by show 1 < 5; omega) HV1.out).mono ?_
      rintro e w7 ⟨rfl, hA, hK2⟩
      have hk2 := KN.call hHeld hK2
      dsimp only
      refine hK.out _ _ hk2 (fun hHeld => ?_)
      clear hK K hk2
      try simp only [Act.put, List.getElem_toArray, List.getElem_cons_zero, List.getElem_cons_succ, List.setIfInBounds_toArray, List.set_cons_zero, List.set_cons_succ]
      have HP7 : Hid (PsL w1.heap.size w7 [(P 0, 0, bs 0), (P 1, 1, bs 1), (P 2, 2, bs 2), (A, 0, ab), (B, 0, bs 0)]) := Lib.hid hA
      clear hA hK2
      refine takeZ (i := 5) rfl (by kernel_rfl) (by kernel_rfl) (by kernel_rfl) (by first | exact fun _ _ _ _ h => h | exact fun _ _ _ _ h => nomatch h.1) (by rfl) hHeld ?_
      apply Exists.intro
      apply And.intro
      · intro W3 hS3
        go_simp
        try rfl
      try simp only [Act.put, List.getElem_toArray, List.getElem_cons_zero, List.getElem_cons_succ, List.setIfInBounds_toArray, List.set_cons_zero, List.set_cons_succ]
      refine takeZ (i := 6) rfl (by kernel_rfl) (by kernel_rfl) (by kernel_rfl) (by first | exact fun _ _ _ _ h => h | exact fun _ _ _ _ h => nomatch h.1) (by rfl) hHeld ?_
      apply Exists.intro
      apply And.intro
      · intro W3 hS3
        go_simp
        try rfl
      try simp only [Act.put, List.getElem_toArray, List.getElem_cons_zero, List.getElem_cons_succ, List.setIfInBounds_toArray, List.set_cons_zero, List.set_cons_succ]
      refine takeZ (i := 7) rfl (by kernel_rfl) (by kernel_rfl) (by kernel_rfl) (by first | exact fun _ _ _ _ h => h | exact fun _ _ _ _ h => nomatch h.1) (by rfl) hHeld ?_
      apply Exists.intro
      apply And.intro
      · intro W3 hS3
        go_simp
        try rfl
      try simp only [Act.put, List.getElem_toArray, List.getElem_cons_zero, List.getElem_cons_succ, List.setIfInBounds_toArray, List.set_cons_zero, List.set_cons_succ]
      refine takeZ (i := 8) rfl (by kernel_rfl) (by kernel_rfl) (by kernel_rfl) (by first | exact fun _ _ _ _ h => h | exact fun _ _ _ _ h => nomatch h.1) (by rfl) hHeld ?_
      apply Exists.intro
      apply And.intro
      · intro W3 hS3
        go_simp
        try rfl
      try simp only [Act.put, List.getElem_toArray, List.getElem_cons_zero, List.getElem_cons_succ, List.setIfInBounds_toArray, List.set_cons_zero, List.set_cons_succ]
      refine takeZ (i := 9) rfl (by kernel_rfl) (by kernel_rfl) (by kernel_rfl) (by first | exact fun _ _ _ _ h => h | exact fun _ _ _ _ h => nomatch h.1) (by rfl) hHeld ?_
      apply Exists.intro
      apply And.intro
      · intro W3 hS3
        go_simp
        try rfl
      try simp only [Act.put, List.getElem_toArray, List.getElem_cons_zero, List.getElem_cons_succ, List.setIfInBounds_toArray, List.set_cons_zero, List.set_cons_succ]
      refine takeZ (i := 10) rfl (by kernel_rfl) (by kernel_rfl) (by kernel_rfl) (by first | exact fun _ _ _ _ h => h | exact fun _ _ _ _ h => nomatch h.1) (by rfl) hHeld ?_
      apply Exists.intro
      apply And.intro
      · intro W3 hS3
        go_simp
        try rfl
      try simp only [Act.put, List.getElem_toArray, List.getElem_cons_zero, List.getElem_cons_succ, List.setIfInBounds_toArray, List.set_cons_zero, List.set_cons_succ]
      refine wpAnyH_ready (rs := [11]) (by kernel_rfl) (by simp) ?_
      refine (AllReadyH.cons rfl (fun K hK => ?_) AllReadyH.nil)
      go_simp
      refine (text_b HP7.out (i := 1) (by show 1 < 5; omega)).mono ?_
      rintro e w8 ⟨rfl, hb⟩
      have hk2 := KN.call hHeld (Kin.of_below hb)
      dsimp only
      refine hK.out _ _ hk2 (fun hHeld => ?_)
      clear hK K hk2
      try simp only [Act.put, List.getElem_toArray, List.getElem_cons_zero, List.getElem_cons_succ, List.setIfInBounds_toArray, List.set_cons_zero, List.set_cons_succ]
      have HP8 := Lib.hid (HP7.out.below hb)
      clear hb
      refine wpAnyH_ready (rs := [12]) (by kernel_rfl) (by simp) ?_
      refine (AllReadyH.cons rfl (fun K hK => ?_) AllReadyH.nil)
      go_simp
      refine (hear_ok HP8.out (i := 4) (by show 4 < 5; omega) (textB (bs 1)) (by have := textB_size (HSY.out.ok 1 (by omega)); omega) HV2.out).mono ?_
      rintro e w9 ⟨rfl, hA, hK2⟩
      have hk2 := KN.call hHeld hK2
      dsimp only
      refine hK.out _ _ hk2 (fun hHeld => ?_)
      clear hK K hk2
      try simp only [Act.put, List.getElem_toArray, List.getElem_cons_zero, List.getElem_cons_succ, List.setIfInBounds_toArray, List.set_cons_zero, List.set_cons_succ]
      have HP9 : Hid (PsL w1.heap.size w9 [(P 0, 0, bs 0), (P 1, 1, bs 1), (P 2, 2, bs 2), (A, 0, ab), (B, 0, bb)]) := Lib.hid hA
      clear hA hK2
      refine takeZ (i := 13) rfl (by kernel_rfl) (by kernel_rfl) (by kernel_rfl) (by first | exact fun _ _ _ _ h => h | exact fun _ _ _ _ h => nomatch h.1) (by rfl) hHeld ?_
      apply Exists.intro
      apply And.intro
      · intro W3 hS3
        go_simp
        try rfl
      try simp only [Act.put, List.getElem_toArray, List.getElem_cons_zero, List.getElem_cons_succ, List.setIfInBounds_toArray, List.set_cons_zero, List.set_cons_succ]
      refine takeZ (i := 14) rfl (by kernel_rfl) (by kernel_rfl) (by kernel_rfl) (by first | exact fun _ _ _ _ h => h | exact fun _ _ _ _ h => nomatch h.1) (by rfl) hHeld ?_
      apply Exists.intro
      apply And.intro
      · intro W3 hS3
        go_simp
        try rfl
      try simp only [Act.put, List.getElem_toArray, List.getElem_cons_zero, List.getElem_cons_succ, List.setIfInBounds_toArray, List.set_cons_zero, List.set_cons_succ]
      refine takeZ (i := 15) rfl (by kernel_rfl) (by kernel_rfl) (by kernel_rfl) (by first | exact fun _ _ _ _ h => h | exact fun _ _ _ _ h => nomatch h.1) (by rfl) hHeld ?_
      apply Exists.intro
      apply And.intro
      · intro W3 hS3
        go_simp
        try rfl
      try simp only [Act.put, List.getElem_toArray, List.getElem_cons_zero, List.getElem_cons_succ, List.setIfInBounds_toArray, List.set_cons_zero, List.set_cons_succ]
      refine takeZ (i := 16) rfl (by kernel_rfl) (by kernel_rfl) (by kernel_rfl) (by first | exact fun _ _ _ _ h => h | exact fun _ _ _ _ h => nomatch h.1) (by rfl) hHeld ?_
      apply Exists.intro
      apply And.intro
      · intro W3 hS3
        go_simp
        try rfl
      try simp only [Act.put, List.getElem_toArray, List.getElem_cons_zero, List.getElem_cons_succ, List.setIfInBounds_toArray, List.set_cons_zero, List.set_cons_succ]
      refine takeZ (i := 17) rfl (by kernel_rfl) (by kernel_rfl) (by kernel_rfl) (by first | exact fun _ _ _ _ h => h | exact fun _ _ _ _ h => nomatch h.1) (by rfl) hHeld ?_
      apply Exists.intro
      apply And.intro
      · intro W3 hS3
        go_simp
        try rfl
      try simp only [Act.put, List.getElem_toArray, List.getElem_cons_zero, List.getElem_cons_succ, List.setIfInBounds_toArray, List.set_cons_zero, List.set_cons_succ]
      refine wpAnyH_ready (rs := [18]) (by kernel_rfl) (by simp) ?_
      refine (AllReadyH.cons rfl (fun K hK => ?_) AllReadyH.nil)
      go_simp
      refine (same_b HP9.out (i := 3) (j := 4) (q := true) (by show 3 < 5; omega) (by show 4 < 5; omega) HTE.out).mono ?_
      rintro e w10 ⟨rfl, hb⟩
      have hk2 := KN.call hHeld (Kin.of_below hb)
      dsimp only
      refine hK.out _ _ hk2 (fun hHeld => ?_)
      clear hK K hk2
      try simp only [Act.put, List.getElem_toArray, List.getElem_cons_zero, List.getElem_cons_succ, List.setIfInBounds_toArray, List.set_cons_zero, List.set_cons_succ]
      have HP10 := Lib.hid (HP9.out.below hb)
      clear hb
      refine takeZ (i := 19) rfl (by kernel_rfl) (by kernel_rfl) (by kernel_rfl) (by first | exact fun _ _ _ _ h => h | exact fun _ _ _ _ h => nomatch h.1) (by rfl) hHeld ?_
      apply Exists.intro
      apply And.intro
      · intro W3 hS3
        go_simp
        try rfl
      try simp only [Act.put, List.getElem_toArray, List.getElem_cons_zero, List.getElem_cons_succ, List.setIfInBounds_toArray, List.set_cons_zero, List.set_cons_succ]
      refine takeZ (i := 20) rfl (by kernel_rfl) (by kernel_rfl) (by kernel_rfl) (by first | exact fun _ _ _ _ h => h | exact fun _ _ _ _ h => nomatch h.1) (by rfl) hHeld ?_
      apply Exists.intro
      apply And.intro
      · intro W3 hS3
        go_simp
        try rfl
      try simp only [Act.put, List.getElem_toArray, List.getElem_cons_zero, List.getElem_cons_succ, List.setIfInBounds_toArray, List.set_cons_zero, List.set_cons_succ]
      refine takeZ (i := 21) rfl (by kernel_rfl) (by kernel_rfl) (by kernel_rfl) (by first | exact fun _ _ _ _ h => h | exact fun _ _ _ _ h => nomatch h.1) (by rfl) hHeld ?_
      apply Exists.intro
      apply And.intro
      · intro W3 hS3
        go_simp
        try rfl
      try simp only [Act.put, List.getElem_toArray, List.getElem_cons_zero, List.getElem_cons_succ, List.setIfInBounds_toArray, List.set_cons_zero, List.set_cons_succ]
      refine takeZ (i := 22) rfl (by kernel_rfl) (by kernel_rfl) (by kernel_rfl) (by first | exact fun _ _ _ _ h => h | exact fun _ _ _ _ h => nomatch h.1) (by rfl) hHeld ?_
      apply Exists.intro
      apply And.intro
      · intro W3 hS3
        go_simp
        try rfl
      try simp only [Act.put, List.getElem_toArray, List.getElem_cons_zero, List.getElem_cons_succ, List.setIfInBounds_toArray, List.set_cons_zero, List.set_cons_succ]
      refine takeZ (i := 25) rfl (by kernel_rfl) (by kernel_rfl) (by kernel_rfl) (by first | exact fun _ _ _ _ h => h | exact fun _ _ _ _ h => nomatch h.1) (by rfl) hHeld ?_
      apply Exists.intro
      apply And.intro
      · intro W3 hS3
        go_simp
        try rfl
      try simp only [Act.put, List.getElem_toArray, List.getElem_cons_zero, List.getElem_cons_succ, List.setIfInBounds_toArray, List.set_cons_zero, List.set_cons_succ]
      refine takeZ (i := 26) rfl (by kernel_rfl) (by kernel_rfl) (by kernel_rfl) (by first | exact fun _ _ _ _ h => h | exact fun _ _ _ _ h => nomatch h.1) (by rfl) hHeld ?_
      apply Exists.intro
      apply And.intro
      · intro W3 hS3
        go_simp
        try rfl
      try simp only [Act.put, List.getElem_toArray, List.getElem_cons_zero, List.getElem_cons_succ, List.setIfInBounds_toArray, List.set_cons_zero, List.set_cons_succ]
      refine takeZ (i := 27) rfl (by kernel_rfl) (by kernel_rfl) (by kernel_rfl) (by first | exact fun _ _ _ _ h => h | exact fun _ _ _ _ h => nomatch h.1) (by rfl) hHeld ?_
      apply Exists.intro
      apply And.intro
      · intro W3 hS3
        go_simp
        try rfl
      try simp only [Act.put, List.getElem_toArray, List.getElem_cons_zero, List.getElem_cons_succ, List.setIfInBounds_toArray, List.set_cons_zero, List.set_cons_succ]
      refine takeZ (i := 30) rfl (by kernel_rfl) (by kernel_rfl) (by kernel_rfl) (by first | exact fun _ _ _ _ h => h | exact fun _ _ _ _ h => nomatch h.1) (by rfl) hHeld ?_
      apply Exists.intro
      apply And.intro
      · intro W3 hS3
        go_simp
        try rfl
      try simp only [Act.put, List.getElem_toArray, List.getElem_cons_zero, List.getElem_cons_succ, List.setIfInBounds_toArray, List.set_cons_zero, List.set_cons_succ]
      refine takeZ (i := 31) rfl (by kernel_rfl) (by kernel_rfl) (by kernel_rfl) (by first | exact fun _ _ _ _ h => h | exact fun _ _ _ _ h => nomatch h.1) (by rfl) hHeld ?_
      apply Exists.intro
      apply And.intro
      · intro W3 hS3
        go_simp
        try rfl
      try simp only [Act.put, List.getElem_toArray, List.getElem_cons_zero, List.getElem_cons_succ, List.setIfInBounds_toArray, List.set_cons_zero, List.set_cons_succ]
      refine wpAnyH_ready (rs := [23]) (by kernel_rfl) (by simp) ?_
      refine (AllReadyH.cons rfl (fun K hK => ?_) AllReadyH.nil)
      go_simp
      refine (book_n HP10.out (i := 3) (n := n0 + nn) (by show 3 < 5; omega) HNA.out).mono ?_
      rintro e w11 ⟨xa, xc, rfl, hb⟩
      have hk2 := KN.call hHeld (Kin.of_below hb)
      dsimp only
      refine hK.out _ _ hk2 (fun hHeld => ?_)
      clear hK K hk2
      try simp only [Act.put, List.getElem_toArray, List.getElem_cons_zero, List.getElem_cons_succ, List.setIfInBounds_toArray, List.set_cons_zero, List.set_cons_succ]
      have HP11 := Lib.hid (HP10.out.below hb)
      clear hb
      refine takeZ (i := 24) rfl (by kernel_rfl) (by kernel_rfl) (by kernel_rfl) (by first | exact fun _ _ _ _ h => h | exact fun _ _ _ _ h => nomatch h.1) (by rfl) hHeld ?_
      apply Exists.intro
      apply And.intro
      · intro W3 hS3
        go_simp
        try rfl
      try simp only [Act.put, List.getElem_toArray, List.getElem_cons_zero, List.getElem_cons_succ, List.setIfInBounds_toArray, List.set_cons_zero, List.set_cons_succ]
      refine wpAnyH_ready (rs := [28]) (by kernel_rfl) (by simp) ?_
      refine (AllReadyH.cons rfl (fun K hK => ?_) AllReadyH.nil)
      go_simp
      refine (book_n HP11.out (i := 0) (n := n0) (by show 0 < 5; omega) HN0.out).mono ?_
      rintro e w12 ⟨ya, yc, rfl, hb⟩
      have hk2 := KN.call hHeld (Kin.of_below hb)
      dsimp only
      refine hK.out _ _ hk2 (fun hHeld => ?_)
      clear hK K hk2
      try simp only [Act.put, List.getElem_toArray, List.getElem_cons_zero, List.getElem_cons_succ, List.setIfInBounds_toArray, List.set_cons_zero, List.set_cons_succ]
      have HP12 := Lib.hid (HP11.out.below hb)
      clear hb
      refine takeZ (i := 29) rfl (by kernel_rfl) (by kernel_rfl) (by kernel_rfl) (by first | exact fun _ _ _ _ h => h | exact fun _ _ _ _ h => nomatch h.1) (by rfl) hHeld ?_
      apply Exists.intro
      apply And.intro
      · intro W3 hS3
        go_simp
        try rfl
      try simp only [Act.put, List.getElem_toArray, List.getElem_cons_zero, List.getElem_cons_succ, List.setIfInBounds_toArray, List.set_cons_zero, List.set_cons_succ]
      refine takeZ (i := 32) rfl (by kernel_rfl) (by kernel_rfl) (by kernel_rfl) (by first | exact fun _ _ _ _ h => h | exact fun _ _ _ _ h => nomatch h.1) (by rfl) hHeld ?_
      apply Exists.intro
      apply And.intro
      · intro W3 hS3
        go_simp
        try rfl
      try simp only [Act.put, List.getElem_toArray, List.getElem_cons_zero, List.getElem_cons_succ, List.setIfInBounds_toArray, List.set_cons_zero, List.set_cons_succ]
      refine takeZ (i := 33) rfl (by kernel_rfl) (by kernel_rfl) (by kernel_rfl) (by first | exact fun _ _ _ _ h => h | exact fun _ _ _ _ h => nomatch h.1) (by rfl) hHeld ?_
      apply Exists.intro
      apply And.intro
      · intro W3 hS3
        go_simp
        try rfl
      try simp only [Act.put, List.getElem_toArray, List.getElem_cons_zero, List.getElem_cons_succ, List.setIfInBounds_toArray, List.set_cons_zero, List.set_cons_succ]
      refine takeZ (i := 34) rfl (by kernel_rfl) (by kernel_rfl) (by kernel_rfl) (by first | exact fun _ _ _ _ h => h | exact fun _ _ _ _ h => nomatch h.1) (by rfl) hHeld ?_
      apply Exists.intro
      apply And.intro
      · intro W3 hS3
        go_simp
        try rfl
      try simp only [Act.put, List.getElem_toArray, List.getElem_cons_zero, List.getElem_cons_succ, List.setIfInBounds_toArray, List.set_cons_zero, List.set_cons_succ]
      refine wpAnyH_done (by kernel_rfl) ?_ _
      simp only [Exit.then]
      have HK12 := Lib.hid hHeld
      clear hHeld da db HPd HP7 HP8 HP9 HP10 HP11
      have HB12 := Lib.hid (HB6.out.trans ((Kin.below HK12.out HP6.out.size).mono HB1.out.size))
      obtain ⟨ra, hra⟩ : ∃ ra, ra = askB ab line := ⟨_, rfl⟩
      have HRA : Hid (askB bb line = ra) := Lib.hid (by rw [hra]; exact askB_congr HBE.out line)
      have HAS := Lib.hid (ask_b HP12.out (i := 3) (by show 3 < 5; omega) line HLS.out)
      rw [show askB (atL [(P 0, 0, bs 0), (P 1, 1, bs 1), (P 2, 2, bs 2), (A, 0, ab), (B, 0, bb)] 3).2.2 line = ra from hra.symm] at HAS
      clear hra
      obtain ⟨a1, e1⟩ := ra
      unfold AnsPost at HAS
      go_wp2_with fail
      refine HAS.out.mono ?_
      rintro e w13 ⟨rfl, hb⟩
      have HP13 := Lib.hid (HP12.out.below hb)
      have HB13 := Lib.hid (below_trans HB12.out hb)
      clear hb HAS
      go_wp2_with fail
      refine (new_l HP13.out 3 (by omega)).mono ?_
      rintro e w14 ⟨O, rfl, hA, hK⟩
      have HP14 : Hid (PsL w1.heap.size w14 [(P 0, 0, bs 0), (P 1, 1, bs 1), (P 2, 2, bs 2), (A, 0, ab), (B, 0, bb), (O, 3, empB)]) := Lib.hid hA
      have HB14 := Lib.hid (HB13.out.trans ((Kin.below hK HP13.out.size).mono HB1.out.size))
      clear hA hK
      have HJ14 := Lib.hid (join_ok HP14.out (i := 5) (j := 4) (by show 5 < 6; omega) (by show 4 < 6; omega) (joinV_emp bb))
      go_wp2_with fail
      refine HJ14.out.mono ?_
      rintro e w15 ⟨rfl, hA, hK⟩
      have HP15 : Hid (PsL w1.heap.size w15 [(P 0, 0, bs 0), (P 1, 1, bs 1), (P 2, 2, bs 2), (A, 0, ab), (B, 0, bb), (O, 3, bb)]) := Lib.hid hA
      have HB15 := Lib.hid (HB14.out.trans ((Kin.below hK HP14.out.size).mono HB1.out.size))
      clear hA hK HJ14
      have HAS := Lib.hid (ask_b HP15.out (i := 5) (by show 5 < 6; omega) line HLS.out)
      rw [show askB (atL [(P 0, 0, bs 0), (P 1, 1, bs 1), (P 2, 2, bs 2), (A, 0, ab), (B, 0, bb), (O, 3, bb)] 5).2.2 line = (a1, e1) from HRA.out] at HAS
      unfold AnsPost at HAS
      go_wp2_with fail
      refine HAS.out.mono ?_
      rintro e w16 ⟨rfl, hb⟩
      have HP16 := Lib.hid (HP15.out.below hb)
      have HB16 := Lib.hid (below_trans HB15.out hb)
      clear hb HAS
      go_wp2_with fail
      refine (text_b HP16.out (i := 3) (by show 3 < 6; omega)).mono ?_
      rintro e w17 ⟨rfl, hb⟩
      have HP17 := Lib.hid (HP16.out.below hb)
      have HB17 := Lib.hid (below_trans HB16.out hb)
      clear hb
      have HRD : Hid (Calls Tryz.prog 40 #[.string (textB ab)] w17 (ReadsPost (readB (textB ab)) w17)) := Lib.hid (pread_any _ w17 HP17.out.vars (by have := textB_size HOKA.out; omega))
      obtain ⟨d, hd, hde⟩ := read_text HOKA.out
      rw [hd] at HRD
      unfold ReadsPost at HRD
      simp only at HRD
      have HDE : Hid (allB d = allB ab) := Lib.hid hde.all
      clear hd hde
      go_wp2_with fail
      refine HRD.out.mono ?_
      rintro e w18 ⟨⟨rv, rfl, hl, _⟩, hb⟩
      have HP18 := Lib.hid (HP17.out.below hb)
      have HB18 := Lib.hid (below_trans HB17.out hb)
      have hle : (allB ab).length ≤ 9223372036854775807 := by rw [HNA.out]; have := HNL.out; omega
      rw [HDE.out] at hl
      have HE18 := Lib.hid (hl.ents hle)
      have HLE := Lib.hid hle
      clear hb hl hle HRD HDE
      go_wp2_with fail
      refine (book_b HP18.out (i := 3) (by show 3 < 6; omega)).mono ?_
      rintro e w19 ⟨bv, rfl, hl, _, hb⟩
      have HP19 := Lib.hid (HP18.out.below hb)
      have HB19 := Lib.hid (below_trans HB18.out hb)
      have HQ : Hid (Calls Tryz.prog 31 #[rv, bv] w19 fun e w' => e = .returned (.bool true) ∧ Below w19.heap.size w19 w') := Lib.hid (by
        have h9 := sameE_any rv bv (allB ab) (allB ab) w19 (HE18.out.below hb) (ListAt.ents (l := allB ab) hl HLE.out) (by rw [HNA.out]; have := HNL.out; omega)
        rw [decide_eq_true rfl] at h9
        exact h9)
      clear hb hl
      go_wp2_with fail
      refine HQ.out.mono ?_
      rintro e w20 ⟨rfl, hb⟩
      have HP20 := Lib.hid (HP19.out.below hb)
      have HB20 := Lib.hid (below_trans HB19.out hb)
      clear hb HQ
      go_wp2_with fail
      refine (since_b HP20.out (i := 3) (by show 3 < 6; omega) _ _ _ _ (fun _ => 0) ⟨rfl, rfl, rfl, rfl⟩).mono ?_
      rintro e w21 ⟨sv, rfl, hl, _, hb⟩
      have HP21 := Lib.hid (HP20.out.below hb)
      have HB21 := Lib.hid (below_trans HB20.out hb)
      have HE21 := Lib.hid (ListAt.ents (l := allB ab) hl HLE.out)
      clear hb hl
      go_wp2_with fail
      refine (book_b HP21.out (i := 3) (by show 3 < 6; omega)).mono ?_
      rintro e w22 ⟨cv, rfl, hl, _, hb⟩
      have HP22 := Lib.hid (HP21.out.below hb)
      have HB22 := Lib.hid (below_trans HB21.out hb)
      have HQ : Hid (Calls Tryz.prog 31 #[sv, cv] w22 fun e w' => e = .returned (.bool true) ∧ Below w22.heap.size w22 w') := Lib.hid (by
        have h9 := sameE_any sv cv (allB ab) (allB ab) w22 (HE21.out.below hb) (ListAt.ents (l := allB ab) hl HLE.out) (by rw [HNA.out]; have := HNL.out; omega)
        rw [decide_eq_true rfl] at h9
        exact h9)
      clear hb hl
      go_wp2_with fail
      refine HQ.out.mono ?_
      rintro e w23 ⟨rfl, hb⟩
      have HP23 := Lib.hid (HP22.out.below hb)
      have HB23 := Lib.hid (below_trans HB22.out hb)
      clear hb HQ
      go_wp2_with fail
      refine (sane_any _ HP23.out.vars).mono ?_
      rintro e w24 ⟨rfl, hb⟩
      have HB24 := Lib.hid (below_trans HB23.out hb)
      clear hb
      go_wp2
      go_ret
      exact ⟨rfl, HB24.out⟩
end Go.Proofs.YtdfkaijeppdhaaaGreatDoor

/- Contracts: insertion sort of indices, and the stable sort of at most 8. -/
import Derived.Test.YtaakefjblldccaaSo
namespace Go.Proofs.Ytaakefjblldccaa
open Go.RowKit

/-- An owned row of ints. -/
structure OwnI (B : Nat) (w : World) (g cap : Nat) (l : List Int) : Prop where
  row : w.ownsRow B 3 1 (.slice (some ⟨g, 0, none⟩) l.length cap) l.length (l.map (Value.int .i64))
  base : B ≤ g
theorem OwnI.cell {B : Nat} {w : World} {g cap : Nat} {l : List Int} (h : OwnI B w g cap l) (j : Nat) (hj : j < l.length) : w.cell? ⟨g, j, none⟩ = some (.int .i64 (l.getD j 0)) := by
  rw [h.row.cellAt j (by omega)]
  simp [List.getD_eq_getElem?_getD, hj]
theorem OwnI.frozen {B : Nat} {w : World} {g cap : Nat} {l : List Int} (h : OwnI B w g cap l) (j : Nat) : w.frozen? ⟨g, j, none⟩ = false := h.row.frozenAt j
theorem OwnI.set {B : Nat} {w : World} {g cap : Nat} {l : List Int} (h : OwnI B w g cap l) (j : Nat) (x : Int) : OwnI B (w.setCell ⟨g, j, none⟩ (.int .i64 x)) g cap (l.set j x) :=
  ⟨by
    have := (h.row.stored j (.int .i64 x)).1
    have e : (l.set j x).length = l.length := List.length_set
    rw [← List.map_set] at this
    rw [e]
    exact this, h.base⟩
theorem OwnI.keep {B : Nat} {w W : World} {g cap : Nat} {l : List Int} (h : OwnI B w g cap l) (hk : W.heap[g]? = w.heap[g]?) : OwnI B W g cap l := by
  refine ⟨⟨h.row.1, ?_⟩, h.base⟩
  rcases h.row.2 with h2 | ⟨g', cap', cur, h2, h3, h4, h5⟩
  · exact .inl h2
  · simp only [Value.slice.injEq, Option.some.injEq, Addr.mk.injEq] at h2
    obtain ⟨⟨rfl, -⟩, -, rfl⟩ := h2
    exact .inr ⟨_, _, cur, rfl, h3, hk.trans h4, h5⟩
theorem OwnI.lt {B : Nat} {w : World} {g cap : Nat} {l : List Int} (h : OwnI B w g cap l) : g < w.heap.size := by
  rcases h.row.2 with ⟨h2, _⟩ | ⟨g', cap', cur, h2, h3, h4, h5⟩
  · cases h2
  · simp only [Value.slice.injEq, Option.some.injEq, Addr.mk.injEq] at h2
    obtain ⟨⟨rfl, -⟩, -, rfl⟩ := h2
    exact (Array.getElem?_eq_some_iff.1 h4).1
theorem OwnI.below {B : Nat} {w W : World} {g cap : Nat} {l : List Int} (h : OwnI B w g cap l) (hb : Below w.heap.size w W) : OwnI B W g cap l := h.keep (hb.block _ h.lt)
theorem OwnI.ints {B : Nat} {w : World} {g cap : Nat} {l : List Int} (h : OwnI B w g cap l) (hl : l.length ≤ 100000) : IntsAt w (.slice (some ⟨g, 0, none⟩) l.length cap) l := own_ints h.row (by omega)

/-- All but block g is as it was. -/
structure KG (n0 g : Nat) (w W : World) : Prop where
  blk : ∀ k, k < w.heap.size → k ≠ g → W.heap[k]? = w.heap[k]?
  bel : Below n0 w W
  sz : w.heap.size ≤ W.heap.size
theorem KG.refl (n0 g : Nat) (w : World) : KG n0 g w w := ⟨fun _ _ _ => rfl, Below.refl _ _, Nat.le_refl _⟩
theorem KG.below {n0 g : Nat} {w W W' : World} (h : KG n0 g w W) (hn : n0 ≤ W.heap.size) (hb : Below W.heap.size W W') : KG n0 g w W' :=
  ⟨fun k h1 h2 => (hb.block k (by have := h.sz; omega)).trans (h.blk k h1 h2), h.bel.trans (hb.mono hn), Nat.le_trans h.sz hb.size⟩
theorem KG.set {n0 g : Nat} {w W : World} (h : KG n0 g w W) (hg : n0 ≤ g) (j : Nat) (v : Value) : KG n0 g w (W.setCell ⟨g, j, none⟩ v) :=
  ⟨fun k h1 h2 => (Below.heap_setCell _ _ _ k h2).trans (h.blk k h1 h2), h.bel.setCell (p := ⟨g, j, none⟩) hg v, by simpa using h.sz⟩
theorem KG.trans {n0 g : Nat} {a b c : World} (h : KG n0 g a b) (k : KG n0 g b c) : KG n0 g a c :=
  ⟨fun j h1 h2 => (k.blk j (by have := h.sz; omega) h2).trans (h.blk j h1 h2), h.bel.trans k.bel, Nat.le_trans h.sz k.sz⟩


set_option maxRecDepth 100000 in
set_option maxHeartbeats 8000000 in
theorem insSort_any {n0 g cap Bx b off capR n : Nat} {Q : Int} {R : List Rat2} {G : List Int} {w : World} (hrep : Rep Q R G) (hm : Mod R) (hn : G.length = n) (h1 : 1 ≤ n) (h8 : n ≤ 8)
    (hO : OwnI n0 w g cap (asI (List.range n))) (hR : RatBox Bx b off capR R w) (hne : Bx ≠ g ∧ b ≠ g) (hlt : Bx < w.heap.size ∧ b < w.heap.size) (hn0 : n0 ≤ w.heap.size) :
    Calls Try.prog 117 #[.slice (some ⟨g, 0, none⟩) n cap, .int .i64 0, .int .i64 n, .func (.func 65) #[] #[.pointer (some ⟨Bx, 0, none⟩)]] w fun e w' =>
      (∃ v, e = .returned v) ∧ (∃ L, Orde G L ∧ OwnI n0 w' g cap (asI L)) ∧ KG n0 g w w' := by
  have HREP := Lib.hid hrep
  have HM := Lib.hid hm
  have HN := Lib.hid hn
  have hrl := hrep.len
  have HRL := Lib.hid (show R.length = n by omega)
  have HO := Lib.hid hO
  have HR := Lib.hid hR
  have HNE := Lib.hid hne
  have HLT := Lib.hid hlt
  clear hrep hm hn hO hR hne hrl hlt
  go_enter Try.func117, Try.ntmps117
  go_wp2
  go_loopw [8] (fun iv wr => ∃ (i : Nat) (arr : List Nat), 1 ≤ i ∧ i ≤ n ∧ iv = .int .i64 i ∧ Hid (PreI G n i arr) ∧ OwnI n0 wr g cap (asI arr) ∧ KG n0 g w wr) (fun iv _ => n - (intOf iv).toNat)
  case atStart => exact ⟨1, List.range n, Nat.le_refl _, h1, rfl, Lib.hid (pre_start G h1), HO.out, KG.refl _ _ _⟩
  case round =>
    obtain ⟨i, arr, hi1, hi, rfl, HP, hOw, hK⟩ := hrel
    obtain ⟨wo, rfl⟩ : ∃ wo : World, wo = wr := ⟨_, rfl⟩
    by_cases hin : i < n
    · have hin' : (i : Int) < (n : Int) := by omega
      have HI0 := Lib.hid (ins_start HP.out hin)
      go_wp2
      go_loopw [9] (fun jv wr => ∃ (j : Nat) (arr : List Nat), jv = .int .i64 j ∧ Hid (InsI G n i j arr) ∧ OwnI n0 wr g cap (asI arr) ∧ KG n0 g w wr) (fun jv _ => (intOf jv).toNat)
      case atStart => exact ⟨i, arr, rfl, HI0, hOw, hK⟩
      case round =>
        clear hOw hK HI0 HP
        obtain ⟨j, arr, rfl, HI, hOw, hK⟩ := hrel
        obtain ⟨hal, hji⟩ := ins_len HI.out hin
        have hal' : (asI arr).length = n := by rw [asI_len]; exact hal
        have HAL := Lib.hid hal
        have HAL' := Lib.hid hal'
        clear hal hal'
        rcases j with _ | j
        · have hP := Lib.hid (ins_stop HI.out hin (.inl rfl))
          rw [show ((0 : Nat) : Int) = 0 from rfl]
          have HOw := Lib.hid hOw
          have HK := Lib.hid hK
          clear hOw hK
          go_wp2
          refine wp_region_quiet_lit (by kernel_rfl) (by kernel_rfl) ?_
          repeat (any_goals (first | go_big_quiet_step (fail) | quiet_step (fail)))
          all_goals (refine wpQuiet_nil ?_; intro _ hw'; obtain ⟨nq, hw''⟩ := hw'; subst hw'')
          all_goals go_wp2
          all_goals go_roundw
          all_goals try (case rel => exact ⟨i + 1, arr, by omega, by omega, by go_num, hP, HOw.out.below (below_drewN (Below.refl _ _) _), HK.out.below (Nat.le_trans hn0 HK.out.sz) (below_drewN (Below.refl _ _) _)⟩)
          all_goals (case measure => simp [intOf]; omega)
        · have hjn : j + 1 < n := by omega
          have k1 := hOw.cell (j + 1) (by rw [HAL'.out]; omega)
          have k0 := hOw.cell j (by rw [HAL'.out]; omega)
          have f1 := hOw.frozen (j + 1)
          have f0 := hOw.frozen j
          have ea : (asI arr).getD (j + 1) 0 = (i : Int) := by
            rw [asI_at (by rw [HAL.out]; omega)]
            have := ins_at HI.out
            rw [List.getD_eq_getElem?_getD, List.getElem?_eq_getElem (by rw [HAL.out]; omega)] at this
            exact congrArg (fun (x : Nat) => (x : Int)) this
          have hpv := ins_prev HI.out
          obtain ⟨y, hy⟩ : ∃ y, y = arr.getD j 0 := ⟨_, rfl⟩
          have eb : (asI arr).getD j 0 = (y : Int) := by
            rw [asI_at (by rw [HAL.out]; omega), hy, List.getD_eq_getElem?_getD, List.getElem?_eq_getElem (by rw [HAL.out]; omega)]
            rfl
          rw [ea] at k1
          rw [eb] at k0
          rw [← hy] at hpv
          have HY := Lib.hid hy
          clear hy ea eb
          have HOw := Lib.hid hOw
          have HK := Lib.hid hK
          have hRB := HR.out.keep (W := wr) (fun k hc => hK.blk k (by rcases hc with rfl | rfl; exact HLT.out.1; exact HLT.out.2) (by rcases hc with rfl | rfl; exact HNE.out.1; exact HNE.out.2))
          have HRB := Lib.hid hRB
          have hyi : y < n := by omega
          have CW := Lib.hid (fun W (hW : KBs wr W) => (whole1_any (HRB.out.below hW) HM.out (by rw [HRL.out]; exact h8) (a := i) (c := y) (by rw [HRL.out]; exact hin) (by rw [HRL.out]; exact hyi)).mono (R' := fun e w' => e = .returned (.int .i64 (Lib.compareInt ((R.getD y (0, 0)).1 * (R.getD i (0, 0)).2) ((R.getD i (0, 0)).1 * (R.getD y (0, 0)).2))) ∧ KBs wr w') (fun e w' ⟨h5, h6⟩ => ⟨h5, KBs.call hW h6⟩))
          have LT := Lib.hid (HREP.out.lt (i := y) (j := i) (by rw [HN.out]; exact hyi) (by rw [HN.out]; exact hin))
          have r1 : ∀ W, KBs wr W → W.cell? ⟨g, j + 1, none⟩ = some (.int .i64 i) := fun W h => keep_cell h k1
          have r0 : ∀ W, KBs wr W → W.cell? ⟨g, j, none⟩ = some (.int .i64 y) := fun W h => keep_cell h k0
          have e1 : IntKind.i64.wrap ((j : Int) + 1 - 1) = (j : Int) := by rw [Int.add_sub_cancel]; exact IntWalk.i64_in _ (by omega)
          have e2 : IntKind.i64.wrap (j : Int) = (j : Int) := IntWalk.i64_in _ (by omega)
          have hd1 : decide ((0 : Int) < (j : Int) + 1) = true := decide_eq_true (by omega)
          have i1 : (j : Int) + 1 < (n : Int) := by omega
          have i2 : (0 : Int) ≤ (j : Int) + 1 := by omega
          have i3 : ((j : Int) + 1).toNat = j + 1 := by omega
          have i0 : (j : Int) < (n : Int) := by omega
          rw [show (((j + 1 : Nat)) : Int) = (j : Int) + 1 from rfl]
          clear hOw hK hRB k1 k0 f1 f0
          by_cases hyl : G.getD y 0 < G.getD i 0
          · have hcv := cmp_lt (LT.out.2 hyl)
            rw [hcv] at CW
            have hSW := Lib.hid (show InsI G n i j ((arr.set (j + 1) y).set j i) by
              have h := ins_swap HI.out (by rw [← HY.out]; exact hyl)
              rw [← HY.out] at h
              exact h)
            clear hcv hyl LT
            go_wp2
            go_region_held3 (fun W => KBs wr W) (first | exact KBs.drew (KBs.refl _) | assumption | (apply KBs.drew; assumption)) (first
              | (go_at_call 65; (with_reducible refine (CW.out _ ?_).mono ?_); (first | exact KBs.drew (KBs.refl _) | exact KBs.refl _); rintro e w5 ⟨rfl, k5⟩)
              | fail)
            have K5 := Lib.hid k5
            have HO5 := Lib.hid (HOw.out.below K5.out)
            have k1 := K5.out |> r1 _
            have k0 := K5.out |> r0 _
            have f1 := HO5.out.frozen (j + 1)
            have f0 := HO5.out.frozen j
            clear r1 r0 k5 CW
            go_wp2
            go_region
            have HOS := Lib.hid (show OwnI n0 ((w5.setCell ⟨g, j + 1, none⟩ (.int .i64 y)).setCell ⟨g, j, none⟩ (.int .i64 i)).drew g cap (asI ((arr.set (j + 1) y).set j i)) by
              have h := (HO5.out.set (j + 1) y).set j i
              rw [asI_set, asI_set] at h
              exact h.keep rfl)
            have HKS := Lib.hid (show KG n0 g w ((w5.setCell ⟨g, j + 1, none⟩ (.int .i64 y)).setCell ⟨g, j, none⟩ (.int .i64 i)).drew from
              (((HK.out.below (Nat.le_trans hn0 HK.out.sz) K5.out).set HOw.out.base (j + 1) (.int .i64 y)).set HOw.out.base j (.int .i64 i)).below (Nat.le_trans hn0 (by have := (HK.out.below (Nat.le_trans hn0 HK.out.sz) K5.out).sz; simpa using this)) ((Below.refl _ _).drew))
            clear k1 k0 f1 f0
            go_wp2
            go_roundw
            case rel => exact ⟨j, (arr.set (j + 1) y).set j i, rfl, hSW, HOS.out, HKS.out⟩
            case measure => simp [intOf]
          · have hcv := cmp_ge (fun h => hyl (LT.out.1 h))
            generalize Lib.compareInt ((R.getD y (0, 0)).1 * (R.getD i (0, 0)).2) ((R.getD i (0, 0)).1 * (R.getD y (0, 0)).2) = cv at *
            have hP := Lib.hid (ins_stop HI.out hin (.inr (by rw [Nat.add_sub_cancel, ← HY.out]; exact hyl)))
            clear hyl LT
            go_wp2
            go_region_held3 (fun W => KBs wr W) (first | exact KBs.drew (KBs.refl _) | assumption | (apply KBs.drew; assumption)) (first
              | (go_at_call 65; (with_reducible refine (CW.out _ ?_).mono ?_); (first | exact KBs.drew (KBs.refl _) | exact KBs.refl _); rintro e w5 ⟨rfl, k5⟩)
              | fail)
            have K5 := Lib.hid k5
            clear r1 r0 k5 CW
            go_wp2
            go_roundw
            case rel => exact ⟨i + 1, arr, by omega, by omega, by go_num, hP, HOw.out.below K5.out, HK.out.below (Nat.le_trans hn0 HK.out.sz) K5.out⟩
            case measure => simp [intOf]; omega
    · obtain rfl : i = n := by omega
      have hE := Lib.hid (pre_end HP.out HN.out)
      go_wp2
      go_end0
      exact ⟨⟨_, rfl⟩, ⟨arr, hE.out, hOw⟩, hK⟩

set_option maxRecDepth 100000 in
set_option maxHeartbeats 2000000 in
/-- slices.SortStableFunc of the indices. -/
theorem sortStable_any {n0 g cap Bx b off capR n : Nat} {Q : Int} {R : List Rat2} {G : List Int} {w : World} (hrep : Rep Q R G) (hm : Mod R) (hn : G.length = n) (h1 : 1 ≤ n) (h8 : n ≤ 8)
    (hO : OwnI n0 w g cap (asI (List.range n))) (hR : RatBox Bx b off capR R w) (hne : Bx ≠ g ∧ b ≠ g) (hlt : Bx < w.heap.size ∧ b < w.heap.size) (hn0 : n0 ≤ w.heap.size) :
    Calls Try.prog 64 #[.slice (some ⟨g, 0, none⟩) n cap, .func (.func 65) #[] #[.pointer (some ⟨Bx, 0, none⟩)]] w fun e w' =>
      (∃ v, e = .returned v) ∧ (∃ L, Orde G L ∧ OwnI n0 w' g cap (asI L)) ∧ KG n0 g w w' := by
  have I := Lib.hid (insSort_any hrep hm hn h1 h8 hO hR hne hlt hn0)
  have S : Hid (Calls Try.prog 97 #[.slice (some ⟨g, 0, none⟩) n cap, .int .i64 n, .func (.func 65) #[] #[.pointer (some ⟨Bx, 0, none⟩)]] w fun e w' =>
      (∃ v, e = .returned v) ∧ (∃ L, Orde G L ∧ OwnI n0 w' g cap (asI L)) ∧ KG n0 g w w') := Lib.hid (by
    have hd : decide ((20 : Int) ≤ (n : Int)) = false := decide_eq_false (by omega)
    have hd2 : decide ((20 : Int) < (n : Int)) = false := decide_eq_false (by omega)
    have hd3 : (n : Int) < 20 := by omega
    clear hrep hm hn hO hR hne hlt
    go_enter Try.func97, Try.ntmps97
    go_wp2
    refine wp_loop_rounds 1 ?_
    rw [rounds_succ]
    go_wp2_with fail
    refine I.out.mono ?_
    rintro e w1 ⟨⟨u, rfl⟩, ⟨L, hL, hOL⟩, hK⟩
    have HO := Lib.hid hOL
    have HK := Lib.hid hK
    have HL := Lib.hid hL
    clear hOL hK hL
    go_wp2
    refine wp_loop_rounds 1 ?_
    rw [rounds_succ]
    go_wp2
    go_end0
    exact ⟨⟨_, rfl⟩, ⟨L, HL.out, HO.out⟩, HK.out⟩)
  clear I hrep hm hn hO hR hne hlt
  go_enter Try.func64, Try.ntmps64
  go_wp2_with fail
  refine S.out.mono ?_
  rintro e w1 ⟨⟨u, rfl⟩, ⟨L, hL, hOL⟩, hK⟩
  have HO := Lib.hid hOL
  have HK := Lib.hid hK
  have HL := Lib.hid hL
  clear hOL hK hL
  go_wp2
  go_end0
  exact ⟨⟨_, rfl⟩, ⟨L, HL.out, HO.out⟩, HK.out⟩

end Go.Proofs.Ytaakefjblldccaa

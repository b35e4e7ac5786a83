/- Contract: awards in whole numbers (the reference): the walk. -/
import Derived.Test.YtaakefjblldccaaWz
namespace Go.Proofs.Ytaakefjblldccaa
open Go.RowKit

set_option maxRecDepth 100000 in
set_option maxHeartbeats 8000000 in
theorem rWhole_any (v : Value) (c : List Int) (n r : Int) (w : World) (hv : IntsAt w v c) (L : List Nat) (hL : shareE c n r = 0 → Orde (gL c n r) L) :
    Calls Try.prog 47 #[v, .int .i64 n, .int .i64 r] w (GivesHL L c n r w) := by
  have SH := Lib.hid (rShare_any v c n r w hv)
  unfold GivesS at SH
  have hl := shareV_len c n r
  clear hv
  by_cases h0 : shareE c n r = 0
  · have HL := Lib.hid (hL h0)
    have K := shOk h0
    have WH := Lib.hid (whl_share h0)
    have E0 := Lib.hid h0
    rw [K.val] at SH hl
    have hpos := K.pos
    have hhi := K.hi
    rw [h0] at SH
    clear h0 K hL
    have GD : Hid (∀ e w', (∃ ov, e = Ending.returned (.tuple #[ov, .int .i64 0]) ∧ IntsAt w' ov (incL (qsL (shareL c n r)) (L.take (whN n (shareL c n r)))) ∧ Below w.heap.size w w') → GivesHL L c n r w e w') := Lib.hid (fun e w' ⟨ov, h1, h3, h4⟩ =>
      ⟨ov, _, by rw [E0.out]; exact h1, h3, h4, fun h => absurd E0.out h, fun _ => rfl⟩)
    refine Calls.mono ?_ GD.out
    clear GD E0
    generalize hG : gL c n r = G at *
    generalize frQ c n r = Q at *
    clear hG
    generalize hll : shareL c n r = l at *
    clear hll
    obtain ⟨N, hN⟩ : ∃ N, N = l.length := ⟨_, rfl⟩
    have HN := Lib.hid hN
    obtain ⟨i0, hi0, hz0, hz1, hz2⟩ := info_parts Try.infoInt
    go_enter Try.func47, Try.ntmps47
    go_wp2_with fail
    refine SH.out.mono ?_
    rintro e w1 ⟨v1, rfl, ho1, hb1⟩
    obtain ⟨b, cap, rfl, hbb, hbl⟩ := ho1.split hpos
    have hrow := ho1.row
    rw [← hN] at hrow ⊢
    have hpN : 0 < N := by omega
    have hN8 : N ≤ 8 := by omega
    have HROW := Lib.hid (show WQ w.heap.size b cap N l (.slice none 0 0) [] w1 from ⟨hrow, World.ownsRow_nil _ _ _ _, hN.symm⟩)
    have HB1 := Lib.hid hb1
    clear ho1 hb1 hl SH hrow hpos hhi hN hbb hbl
    go_wp2
    go_loopw [10, 11] (fun o iv wr => ∃ k : Nat, k ≤ N ∧ iv = .int .i64 k ∧ WQ w.heap.size b cap N (mixL (frL l) l k) o ((qsL l).take k) wr ∧ Below w.heap.size w wr) (fun _ iv _ => N - (intOf iv).toNat)
    case atStart => exact ⟨0, Nat.zero_le _, rfl, by rw [mix_zero]; exact HROW.out, HB1.out⟩
    case round =>
      clear HROW HB1
      obtain ⟨k, hk, rfl, hW, hbel⟩ := hrel
      by_cases hlt : k < N
      · have hlt' : (k : Int) < (N : Int) := by omega
        obtain ⟨x0, d0⟩ := hW.facts hlt
        have lF : (frL l).length = N := by simp [frL, HN.out]
        have lQ : (qsL l).length = N := by simp [qsL, HN.out]
        rw [mix_at lF hk] at x0 d0
        have hx := WH.out.pos k (by rw [← HN.out]; exact hlt)
        have EQ := Lib.hid (show (qsL l).getD k 0 = (l.getD k (0, 0)).1 / (l.getD k (0, 0)).2 by simp [qsL, List.getD_eq_getElem?_getD, show k < l.length by rw [← HN.out]; exact hlt])
        have EF := Lib.hid (show (frL l).getD k (0, 0) = ((l.getD k (0, 0)).1 % (l.getD k (0, 0)).2, (l.getD k (0, 0)).2) by simp [frL, List.getD_eq_getElem?_getD, show k < l.length by rw [← HN.out]; exact hlt])
        have ED := Lib.hid (show ((mixL (frL l) l k).getD k (0, 0)).2 = (l.getD k (0, 0)).2 by rw [mix_at lF hk])
        have MS := Lib.hid (mix_set (A := frL l) (B := l) lF HN.out.symm hlt (0, 0))
        have TS := Lib.hid (show (qsL l).take (k + 1) = (qsL l).take k ++ [(qsL l).getD k 0] by rw [List.take_succ_eq_append_getElem (by omega)]; simp [List.getD_eq_getElem?_getD, show k < (qsL l).length by omega])
        have TL : ((qsL l).take k).length = k := by rw [List.length_take]; omega
        have TL2 := Lib.hid (show ((qsL l).take (k + 1)).length = k + 1 by rw [List.length_take]; omega)
        have HW := Lib.hid hW
        have HBL := Lib.hid hbel
        generalize hxd : l.getD k (0, 0) = xd at *
        obtain ⟨p, d⟩ := xd
        have EX := Lib.hid hxd
        clear hxd
        simp only at x0 d0 hx EQ EF ED
        have hp0 : 0 ≤ p := hx.1
        have hd1 : ¬ d = 0 := by omega
        have hd2 : ¬ d = -1 := by omega
        have hsz := hbel.size
        have eT : IntKind.i64.wrap (p.tdiv d) = p / d := by
          rw [Int.tdiv_eq_ediv_of_nonneg hp0]
          have h1 := Int.ediv_nonneg hp0 (show 0 ≤ d by omega)
          have h2 := Int.ediv_le_self d hp0
          exact IntWalk.i64_in _ (by omega)
        have hrow : wr.drew.ownsRow w.heap.size 3 1 u10 ((qsL l).take k).length (((qsL l).take k).map (Value.int .i64)) := hW.rout.drew
        have HWD := Lib.hid (show WQ w.heap.size b cap N (mixL (frL l) l k) u10 ((qsL l).take k) wr.drew from ⟨hW.row.drew, hrow, hW.lr⟩)
        have HBD := Lib.hid hbel.drew
        have EV := Lib.hid (mix_at (A := frL l) (B := l) (n := N) lF hk (0, 0))
        have CX := Lib.hid (show some (Value.int .i64 ((mixL (frL l) l k).getD k (0, 0)).1) = some (.int .i64 p) by rw [EV.out, EX.out])
        have CD := Lib.hid (show some (Value.int .i64 ((mixL (frL l) l k).getD k (0, 0)).2) = some (.int .i64 d) by rw [EV.out, EX.out])
        have X0 := Lib.hid x0
        have D0 := Lib.hid d0
        clear hW hbel lF lQ x0 d0
        go_wp2_with fail
        go_region_held3 (fun w' => w'.cell? ⟨b, k * 2, none⟩ = some (.int .i64 p) ∧ w'.cell? ⟨b, k * 2 + 1, none⟩ = some (.int .i64 d))
          (first
            | (exact ⟨e3.trans CX.out, e4.trans CD.out⟩)
            | (exact ⟨keep_cell (Below.refl _ wr).drew X0.out, keep_cell (Below.refl _ wr).drew D0.out⟩)
            | (exact ⟨keep_cell ((Below.refl _ wr).drew.alloc (Nat.le_refl _) _) X0.out, keep_cell ((Below.refl _ wr).drew.alloc (Nat.le_refl _) _) D0.out⟩)
            | go_keep)
          ((refine step_append_lies _ (by rfl) _ _ _ (by rfl) w.heap.size 3 i0 _ 1 8 Try.underlying29 hi0 hz0 hz1 hz2 rfl (by omega) _ _ _ (by rfl) (hrow.alloc _)
                ⟨wr.heap.size, 0, none⟩ 1 1 [.int .i64 (p / d)] (by rfl) (by rfl) (World.news_of_block (cs := #[.int .i64 (p / d)]) (t := 3) (fr := (0, 0)) (heap_alloc_new wr _)) (by simp [Value.oneCell'])
                (by omega) (by unfold maxLen; omega) (by omega) (by simp; omega) (wr.heap.size + 1) (by simp) ?_; intro gg cp w3 hown' hgrow hat hlt3; have hR3 := WQ.appended HWD.out hown' (by rfl) hgrow; obtain ⟨e3, e4, e5⟩ := hR3.facts hlt; have hB3 := below_append HBD.out hsz hrow hgrow)
)
        · have HR3 := Lib.hid hR3
          have HB3 := Lib.hid hB3
          rw [EV.out, EX.out] at e3 e4
          simp only at e3 e4
          clear hR3 hB3 hrow hown' hgrow hat
          go_wp2_with fail
          go_region
          have HW6 := Lib.hid (show WQ w.heap.size b cap N (mixL (frL l) l (k + 1)) (.slice (some ⟨gg, 0, none⟩) (k + 1) cp) ((qsL l).take (k + 1)) (w3.setCell ⟨b, k * 2, none⟩ (.int .i64 (p % d))).drew by
            have h2 : WQ w.heap.size b cap N (mixL (frL l) l (k + 1)) (.slice (some ⟨gg, 0, none⟩) ((qsL l).take (k + 1)).length cp) ((qsL l).take (k + 1)) (w3.setCell ⟨b, k * 2, none⟩ (.int .i64 (p % d))).drew := by
              have h := (HR3.out.setR k (p % d) hlt).wq
              rw [ED.out] at h
              have m := MS.out
              rw [EF.out] at m
              rw [m] at h
              rw [TS.out, EQ.out]
              exact ⟨h.row.drew, h.rout.drew, h.lr⟩
            rw [TL2.out] at h2
            exact h2)
          have HB6 := Lib.hid ((HB3.out.setCell (p := ⟨b, k * 2, none⟩) HR3.out.lt.2.2.1 (.int .i64 (p % d))).drew)
          clear e3 e4 e5 eT X0 D0 CX CD hsz hlt3
          go_wp2
          go_roundw
          case rel => exact ⟨k + 1, by omega, by go_num, HW6.out, HB6.out⟩
          case measure => simp [intOf]; omega
      · obtain rfl : k = N := by omega
        have lF : (frL l).length = k := by simp [frL, HN.out]
        have lQ : (qsL l).length = k := by simp [qsL, HN.out]
        rw [mix_end lF HN.out.symm, List.take_of_length_le (by omega)] at hW
        obtain ⟨go, co, hsl, hR⟩ := hW.split (by omega)
        rw [lQ] at hsl
        subst hsl
        have hIq : IntsAt wr (.slice (some ⟨go, 0, none⟩) k co) (qsL l) := by
          have h := hR.rout
          rw [lQ] at h
          rw [← lQ] at h ⊢
          exact own_ints h (by omega)
        have SM := Lib.hid (total_any _ (qsL l) wr hIq WH.out.cvl)
        obtain ⟨m, hm⟩ := Int.eq_ofNat_of_zero_le WH.out.lo
        have hmk : m ≤ k := by have h := WH.out.hi; rw [hm, ← HN.out] at h; omega
        have HMN := Lib.hid (show whN n l = m by unfold whN; rw [hm]; rfl)
        have HM := Lib.hid hm
        have e1 : IntKind.i64.wrap (n - tot (qsL l)) = (m : Int) := by rw [hm]; exact IntWalk.i64_in _ (by omega)
        have hgl : G.length = k := by rw [WH.out.len]; exact HN.out.symm
        have HGL := Lib.hid hgl
        have LQ := Lib.hid lQ
        have LF := Lib.hid lF
        have HR := Lib.hid hR
        have HBL := Lib.hid hbel
        have IB := Lib.hid (fun L' x => incL_bd L' (qsL l) 1000 (fun i => by
          by_cases hi : i < (qsL l).length
          · exact WH.out.cvl.holds _ (mem_getD hi)
          · rw [List.getD_eq_getElem?_getD, List.getElem?_eq_none (by omega)]; simp) x)
        have NP := Lib.hid (fun (j : Nat) (hj : (j : Int) < (m : Int)) => next_pos (k := j) HL.out WH.out.bd WH.out.sum WH.out.rep.hQ (by rw [hm]; exact hj))
        have hLk : L.length = k := by rw [orde_len HL.out]; exact hgl
        have HLK := Lib.hid hLk
        clear hW hR hIq lF lQ hm hgl hbel hLk
        generalize tot (qsL l) = T at *
        go_wp2_with fail
        refine SM.out.mono ?_
        rintro e w' ⟨rfl, rfl⟩
        go_wp2
        clear e1 SM
        go_loopw [12] (fun lv wr => ∃ (j : Nat) (q : Int), j ≤ m ∧ lv = .int .i64 q ∧ q + (j : Int) = (m : Int) ∧ WR w.heap.size b cap go co k (zerR (frL l) (L.take j)) (incL (qsL l) (L.take j)) wr ∧ Below w.heap.size w wr) (fun lv _ => (intOf lv).toNat)
        case atStart => exact ⟨0, _, Nat.zero_le _, rfl, by omega, by simpa [incL, zerR] using HR.out, HBL.out⟩
        case round =>
          clear HR HBL
          obtain ⟨j, q, hj, rfl, hqj, hR, hbel⟩ := hrel
          obtain ⟨wo, rfl⟩ : ∃ wo : World, wo = wr := ⟨_, rfl⟩
          by_cases hq0 : 0 < q
          · obtain ⟨hjL, hpos⟩ := NP.out j (by omega)
            have hxk : L[j] < k := by
              have h := orde_lt HL.out (List.getElem_mem hjL)
              rw [HGL.out] at h
              exact h
            have MO := Lib.hid (show moG (zerL G (L.take j)) k = L[j] by
              rw [← HGL.out]
              exact next_is HL.out (fun i hi => (WH.out.bd i hi).1) hjL hpos)
            have hin : ∀ i ∈ L.take j, i < G.length := fun i hi => orde_lt HL.out (List.mem_of_mem_take hi)
            have RP := Lib.hid (rep_zer (L.take j) WH.out.rep hin)
            have MD := Lib.hid (mod_zer (L.take j) WH.out.mod (fun i hi => by rw [LF.out, ← HGL.out]; exact hin i hi))
            have LR := Lib.hid (show (zerR (frL l) (L.take j)).length = k by rw [zerR_len, LF.out])
            have LG := Lib.hid (show (zerL G (L.take j)).length = k by rw [zerL_len, HGL.out])
            have TS := Lib.hid (show incL (qsL l) (L.take (j + 1)) = (incL (qsL l) (L.take j)).set L[j] ((incL (qsL l) (L.take j)).getD L[j] 0 + 1) by rw [List.take_succ_eq_append_getElem hjL, incL_snoc])
            have TR := Lib.hid (show zerR (frL l) (L.take (j + 1)) = (zerR (frL l) (L.take j)).set L[j] (0, ((zerR (frL l) (L.take j)).getD L[j] (0, 0)).2) by rw [List.take_succ_eq_append_getElem hjL, zerR_snoc])
            have hbd := IB.out (L.take j) L[j]
            have htl : (L.take j).length ≤ 8 := by rw [List.length_take]; omega
            have LO := Lib.hid (show (incL (qsL l) (L.take j)).length = k by rw [incL_len, LQ.out])
            have HR := Lib.hid hR
            have HBL := Lib.hid hbel
            have hxk' : (L[j] : Int) < (k : Int) := by omega
            clear hR hbel hin hpos
            generalize L[j] = x at *
            generalize zerL G (L.take j) = GG at *
            generalize hZ : zerR (frL l) (L.take j) = R at *
            generalize hO : incL (qsL l) (L.take j) = O at *
            clear hZ hO
            go_wp2
            go_loopw [13, 14] (fun s i wq => ∃ i' : Nat, i' ≤ k ∧ i = .int .i64 i' ∧ s = .int .i64 (moG GG i' : Nat) ∧ Below wo.heap.size wo wq) (fun _ i _ => k - (intOf i).toNat)
            case atStart => exact ⟨0, Nat.zero_le _, rfl, rfl, Below.refl _ _⟩
            case round =>
              obtain ⟨i', hi', rfl, rfl, hbq⟩ := hrel
              by_cases hlt : i' < k
              · have hlt' : (i' : Int) < (k : Int) := by omega
                have hbi : moG GG i' < k := by have h := moG_lt (G := GG) (by rw [LG.out]; omega) i' (by rw [LG.out]; exact hi'); rw [LG.out] at h; exact h
                have hbi' : ((moG GG i' : Nat) : Int) < (k : Int) := by omega
                obtain ⟨x0, d0, _⟩ := HR.out.facts hbi
                obtain ⟨y0, f0, _⟩ := HR.out.facts hlt
                have x1 := keep_cell hbq x0
                have d1 := keep_cell hbq d0
                have y1 := keep_cell hbq y0
                have f1 := keep_cell hbq f0
                have hx := MD.out _ (getD_mem2 (k := moG GG i') (by rw [LR.out]; exact hbi))
                have hy := MD.out _ (getD_mem2 (k := i') (by rw [LR.out]; exact hlt))
                have LT := Lib.hid (RP.out.lt (i := moG GG i') (j := i') (by rw [LG.out]; exact hbi) (by rw [LG.out]; exact hlt))
                have MS := Lib.hid (show moG GG (i' + 1) = if GG.getD (moG GG i') 0 < GG.getD i' 0 then i' else moG GG i' from rfl)
                have HBQ := Lib.hid hbq
                clear x0 d0 y0 f0 hbq hbi
                generalize R.getD (moG GG i') (0, 0) = xd at *
                generalize R.getD i' (0, 0) = yd at *
                generalize moG GG i' = bi at *
                obtain ⟨p, q'⟩ := xd
                obtain ⟨n', d⟩ := yd
                simp only at x1 d1 y1 f1 hx hy LT
                have m1 : -1000000000 * 1000000 ≤ p * d ∧ p * d ≤ 1000000000 * 1000000 := by
                  constructor
                  · have := Int.mul_le_mul_of_nonneg_right (show -1000000000 ≤ p by omega) (show 0 ≤ d by omega)
                    omega
                  · have := Int.mul_le_mul_of_nonneg_right (show p ≤ 1000000000 by omega) (show 0 ≤ d by omega)
                    omega
                have m2 : -1000000000 * 1000000 ≤ n' * q' ∧ n' * q' ≤ 1000000000 * 1000000 := by
                  constructor
                  · have := Int.mul_le_mul_of_nonneg_right (show -1000000000 ≤ n' by omega) (show 0 ≤ q' by omega)
                    omega
                  · have := Int.mul_le_mul_of_nonneg_right (show n' ≤ 1000000000 by omega) (show 0 ≤ q' by omega)
                    omega
                have C := Lib.hid (fun W => rBelow_any p q' n' d W (by omega) (by omega))
                by_cases hgt : p * d < n' * q'
                · have MK : Hid (moG GG (i' + 1) = i') := Lib.hid (by rw [MS.out, if_pos (LT.out.1 hgt)])
                  have hcv : Hid (decide (p * d < n' * q') = true) := Lib.hid (decide_eq_true hgt)
                  clear MS LT hgt
                  go_wp2
                  go_still_tail 8, (by kernel_rfl)
                  change wpList _ _ _ _ _ wr.drew
                  go_wp2_with fail
                  refine (C.out _).mono ?_
                  rintro e w2 ⟨rfl, hb2⟩
                  rw [hcv.out]
                  have HB2 := Lib.hid (HBQ.out.trans ((((Below.refl _ wr).drew).trans hb2 : Below wr.heap.size wr w2).mono HBQ.out.size))
                  clear x1 d1 y1 f1 hb2
                  go_wp2
                  go_roundw
                  case rel => exact ⟨i' + 1, by omega, by go_num, by rw [MK.out], HB2.out⟩
                  case measure => simp [intOf]; omega
                · have MK : Hid (moG GG (i' + 1) = bi) := Lib.hid (by rw [MS.out, if_neg (fun h => hgt (LT.out.2 h))])
                  have hcv : Hid (decide (p * d < n' * q') = false) := Lib.hid (decide_eq_false hgt)
                  clear MS LT hgt
                  go_wp2
                  go_still_tail 8, (by kernel_rfl)
                  change wpList _ _ _ _ _ wr.drew
                  go_wp2_with fail
                  refine (C.out _).mono ?_
                  rintro e w2 ⟨rfl, hb2⟩
                  rw [hcv.out]
                  have HB2 := Lib.hid (HBQ.out.trans ((((Below.refl _ wr).drew).trans hb2 : Below wr.heap.size wr w2).mono HBQ.out.size))
                  clear x1 d1 y1 f1 hb2
                  go_wp2
                  go_roundw
                  case rel => exact ⟨i' + 1, by omega, by go_num, by rw [MK.out], HB2.out⟩
                  case measure => simp [intOf]; omega
              · obtain rfl : i' = k := by omega
                rw [MO.out]
                obtain ⟨_, _, fr0⟩ := HR.out.facts hxk
                obtain ⟨o0, fo0⟩ := HR.out.outAt (k := x) (by rw [LO.out]; exact hxk)
                have o1 := keep_cell hbq o0
                have HRW := Lib.hid (HR.out.below hbq)
                obtain ⟨_, _, fr1⟩ := HRW.out.facts hxk
                obtain ⟨_, fo1⟩ := HRW.out.outAt (k := x) (by rw [LO.out]; exact hxk)
                have HS := Lib.hid ((HRW.out.setOut x (O.getD x 0 + 1)).setR x 0 hxk)
                have HBB := Lib.hid (((HBL.out.trans (hbq.mono HBL.out.size)).setCell (p := ⟨go, x, none⟩) HRW.out.lt.2.2.2 (.int .i64 (O.getD x 0 + 1))).setCell (p := ⟨b, x * 2, none⟩) HRW.out.lt.2.2.1 (.int .i64 0))
                have hne : ¬ b = go := HRW.out.ne
                generalize hy : O.getD x 0 = y at *
                clear o0 fo0 fr0 hbq hy
                go_wp2
                go_roundw
                case rel => exact ⟨j + 1, q - 1, by omega, by go_num, by omega, by rw [TR.out, TS.out]; exact HS.out, HBB.out⟩
                case measure => simp [intOf]; omega
          · obtain rfl : q = 0 := by omega
            obtain rfl : j = m := by omega
            have HI := Lib.hid (show IntsAt wo (.slice (some ⟨go, 0, none⟩) k co) (incL (qsL l) (L.take (whN n l))) by
              rw [HMN.out]
              have h := hR.rout
              have hl : (incL (qsL l) (L.take j)).length = k := by rw [incL_len, LQ.out]
              rw [hl] at h
              rw [← hl] at h ⊢
              exact own_ints h (by rw [hl]; omega))
            have HB := Lib.hid hbel
            clear hR hbel
            go_wp2
            refine bodyPost_ret (v := .tuple #[.slice (some ⟨go, 0, none⟩) k co, .int .i64 0]) (by simp [results, Try.results47, go_sem]) rfl ⟨_, rfl, HI.out, HB.out⟩
  · have E := Lib.hid (show shareV c n r = [] by unfold shareV; rw [if_neg h0])
    have hb : (shareE c n r != 0) = true := bne_iff_ne.2 h0
    have GD : Hid (∀ e w', (∃ ov, e = Ending.returned (.tuple #[ov, .int .i64 (shareE c n r)]) ∧ IntsAt w' ov [] ∧ Below w.heap.size w w') → GivesHL L c n r w e w') := Lib.hid (fun e w' ⟨ov, h1, h3, h4⟩ => ⟨ov, [], h1, h3, h4, fun _ => rfl, fun h => absurd h h0⟩)
    refine Calls.mono ?_ GD.out
    clear h0 GD hL
    generalize shareE c n r = se at *
    go_enter Try.func47, Try.ntmps47
    go_wp2_with fail
    refine SH.out.mono ?_
    rintro e w1 ⟨v1, rfl, ho1, hb1⟩
    have H1 := ho1.at hl
    rw [E.out] at H1
    obtain ⟨oa, oc, rfl, _⟩ := H1
    have HB1 := Lib.hid hb1
    clear ho1 hb1
    go_wp2
    refine bodyPost_ret (v := .tuple #[.slice none 0 0, .int .i64 se]) (by simp [results, Try.results47, go_sem]) rfl ⟨_, rfl, ⟨none, 0, rfl, by simp, fun h => by simp at h⟩, HB1.out⟩

end Go.Proofs.Ytaakefjblldccaa

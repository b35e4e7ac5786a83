/- Contracts: awards by a rule, of the reference; whether two lists of ratios are the same. -/
import Derived.Test.YtaakefjblldccaaS
namespace Go.Proofs.Ytaakefjblldccaa
open Go.RowKit


set_option maxHeartbeats 1000000 in
theorem rruled_any (v : Value) (c : List Int) (n r : Int) (w : World) (hv : IntsAt w v c) :
    Calls Try.prog 77 #[v, .int .i64 n, .int .i64 r] w fun e w' => e = .returned (.int .i64 (shareE c n r)) ∧ w = w' := by
  have HV := Lib.hid hv
  clear hv
  unfold shareE
  by_cases h0 : askE c n = 0
  · rw [if_pos h0]
    have A := Lib.hid h0
    clear h0
    cases hr : betw 1 r 4 with
    | false =>
      have R := Lib.hid hr
      clear hr
      go_enter Try.func77, Try.ntmps77
      go_wp2_with fail
      refine (rasked_any _ _ _ _ HV.out).mono ?_
      rintro e w' ⟨rfl, rfl⟩
      rw [A.out]
      go_wp2_with fail
      refine (within_any _ _ _ _).mono ?_
      rintro e w' ⟨rfl, rfl⟩
      rw [R.out]
      go_wp2
      go_ret
      exact ⟨rfl, rfl⟩
    | true =>
      have R := Lib.hid hr
      clear hr
      go_enter Try.func77, Try.ntmps77
      go_wp2_with fail
      refine (rasked_any _ _ _ _ HV.out).mono ?_
      rintro e w' ⟨rfl, rfl⟩
      rw [A.out]
      go_wp2_with fail
      refine (within_any _ _ _ _).mono ?_
      rintro e w' ⟨rfl, rfl⟩
      rw [R.out]
      go_wp2
      go_ret
      exact ⟨rfl, rfl⟩
  · rw [if_neg h0]
    have hb : (askE c n == 0) = false := by rw [beq_eq_false_iff_ne]; exact h0
    clear h0
    go_enter Try.func77, Try.ntmps77
    go_wp2_with fail
    refine (rasked_any _ _ _ _ HV.out).mono ?_
    rintro e w' ⟨rfl, rfl⟩
    go_wp2
    go_ret
    exact ⟨rfl, rfl⟩

set_option maxRecDepth 100000 in
set_option maxHeartbeats 3200000 in
theorem rshare_1 (v : Value) (c : List Int) (e0 r : Int) (w : World) (hv : IntsAt w v c) (hc : Cvl c) (he : 0 ≤ e0) (hes : e0 ≤ 8000) (h2 : (r == 2) = false) (h3 : (r == 3) = false) (h4 : (r == 4) = false) :
    Calls Try.prog 78 #[v, .int .i64 e0, .int .i64 r] w (GivesR (propL c e0) w) := by
  have HV := Lib.hid hv
  have HH := Lib.hid hc
  have hhi := hc.hi
  have hlo := hc.lo
  have ht := hc.tot
  have TT := Lib.hid (fun W q => total_any v c W q hc)
  obtain ⟨i0, hi0, hz0, hz1, hz2⟩ := info_parts Try.infoRatio
  obtain ⟨b, off, cap, rfl, hcc⟩ := ints_cell hv (by omega)
  have HC := Lib.hid hcc
  clear hv hc hcc
  have P : Hid (propL c e0 = c.map fun x => red (x * e0) (max (tot c) 1)) := Lib.hid (by unfold propL; rw [Int.max_comm])
  have HL : Hid ((propL c e0).length = c.length) := Lib.hid (by rw [P.out, List.length_map])
  have ha : 1 ≤ max (tot c) 1 ∧ max (tot c) 1 ≤ 8000 := by omega
  generalize tot c = tt at *
  go_enter Try.func78, Try.ntmps78
  go_wp2_with fail
  refine (TT.out _ HV.out).mono ?_
  rintro e w' ⟨rfl, rfl⟩
  go_wp2
  go_loopw [8, 9] (fun o i wr => ∃ k : Nat, k ≤ c.length ∧ i = .int .i64 k ∧ OwnR wr w.heap.size o ((propL c e0).take k) ∧ Below w.heap.size w wr) (fun _ i _ => c.length - (intOf i).toNat)
  case atStart => exact ⟨0, Nat.zero_le _, rfl, OwnR.nil _ _, Below.refl _ _⟩
  case round =>
    obtain ⟨k, hk, rfl, hown, hbel⟩ := hrel
    have hTk : ((propL c e0).take k).length ≤ 8 := by have := HL.out; simp; omega
    by_cases hlt : k < c.length
    · have c0 := HC.out k hlt
      have c1 := keep_cell hbel c0
      have hx := HH.out.holds _ (mem_getD hlt)
      have T : Hid ((propL c e0).take (k + 1) = (propL c e0).take k ++ [(rn (c.getD k 0 * e0) (max tt 1), rd (c.getD k 0 * e0) (max tt 1))]) := Lib.hid (by rw [P.out]; exact take_map_snoc hlt)
      generalize c.getD k 0 = x at *
      have hi0' : (0 : Int) ≤ (k : Int) := Int.natCast_nonneg _
      have hi1 : (k : Int) < (c.length : Int) := by omega
      have m1 : 0 ≤ x * e0 ∧ x * e0 ≤ 1000 * 8000 := ⟨Int.mul_nonneg (by omega) (by omega), Int.mul_le_mul (by omega) (by omega) (by omega) (by omega)⟩
      have RQ := Lib.hid (fun W => rRatio_any (x * e0) (max tt 1) W (by omega) (by omega) (by omega) (by omega))
      have hbl : b < w.heap.size := World.block_lt_of_cell? _ _ c0
      have C0 := Lib.hid c0
      have HO := Lib.hid hown
      have HB := Lib.hid hbel
      have hsz := hbel.size
      have e1 : IntKind.i64.wrap (x * e0) = x * e0 := IntWalk.i64_in _ (by omega)
      clear c0 hown hbel
      go_wp2_with fail
      go_region_held3 (fun w' => w'.cell? ⟨b, off + k, none⟩ = some (.int .i64 x))
        (first
          | (exact keep_cell hB3 C0.out)
          | (exact keep_cell (hbW.alloc hbW.size _) C0.out)
          | (exact keep_cell hbW C0.out)
          | go_keep)
        (first
          | (go_at_call 26; refine (TT.out _ (HV.out.below HB.out.drew)).mono ?_; rintro e w' ⟨rfl, rfl⟩)
          | (go_at_call 56; refine (RQ.out _).mono ?_; rintro e w2 ⟨rfl, hb2⟩; have hbW := below_trans HB.out.drew hb2; have hownW := HO.out.drew.below hb2; unfold ratV)
          | (refine step_append_lies _ (by rfl) _ _ _ (by rfl) w.heap.size 23 i0 _ 2 16 Try.underlying30 hi0 hz0 hz1 hz2 rfl (by omega) _ _ _ (by rfl) (hownW.row.alloc _)
              ⟨w2.heap.size, 0, none⟩ 1 1 [.int .i64 (rn (x * e0) (max tt 1)), .int .i64 (rd (x * e0) (max tt 1))] (by rfl) (by rfl) (World.news_of_block (cs := #[.int .i64 (rn (x * e0) (max tt 1)), .int .i64 (rd (x * e0) (max tt 1))]) (t := 23) (fr := (0, 0)) (heap_alloc_new w2 _)) (by simp [Value.oneCell'])
              (by omega) (by unfold maxLen; omega) (by omega) (by have := hbW.size; simp; omega) (w2.heap.size + 1) (by simp) ?_; intro gg cp w3 hown' hgrow hat hlt3; have hB3 := below_append hbW hbW.size hownW.row hgrow))
      have O3 : Hid (OwnR w3 w.heap.size _ ((propL c e0).take (k + 1))) := Lib.hid (by rw [T.out]; exact OwnR.snoc (by first | rfl | simp) hown')
      have B3 := Lib.hid hB3
      clear hown' hgrow hownW hbW hB3 e1 hb2 c1
      go_wp2
      go_roundw
      case rel => exact ⟨k + 1, by omega, by go_num, (by have := O3.out; rwa [List.length_take] at this), B3.out⟩
      case measure => simp [intOf]; omega
    · have e : k = c.length := by omega
      subst e
      have O : Hid (OwnR wr w.heap.size u8 (propL c e0)) := Lib.hid (by rwa [List.take_of_length_le (by rw [HL.out]; exact Nat.le_refl _)] at hown)
      have B := Lib.hid hbel
      clear hown hbel
      go_wp2
      go_ret
      exact ⟨_, rfl, O.out, B.out⟩


set_option maxHeartbeats 1000000 in
theorem rshare_2 (v : Value) (c : List Int) (e0 : Int) (w : World) (hv : IntsAt w v c) (hc : Cvl c) (he : 0 ≤ e0) (hes : e0 ≤ tot c) :
    Calls Try.prog 78 #[v, .int .i64 e0, .int .i64 2] w (GivesR (eqW c e0) w) := by
  have HV := Lib.hid hv
  have ht := hc.tot
  have TT := Lib.hid (fun W q => total_any v c W q hc)
  have E1 := Lib.hid (requal_any v c e0 w hv hc he hes)
  clear hv hc
  generalize tot c = tt at *
  go_enter Try.func78, Try.ntmps78
  go_wp2_with fail
  refine (TT.out _ HV.out).mono ?_
  rintro e w' ⟨rfl, rfl⟩
  go_wp2_with fail
  refine E1.out.mono ?_
  rintro e w1 ⟨v1, rfl, ho, hb1⟩
  have O := Lib.hid ho
  have B := Lib.hid hb1
  clear ho hb1
  go_wp2
  go_ret
  exact ⟨_, rfl, O.out, B.out⟩

set_option maxHeartbeats 1000000 in
theorem rshare_3 (v : Value) (c : List Int) (e0 : Int) (w : World) (hv : IntsAt w v c) (hc : Cvl c) (he : 0 ≤ e0) (hes : e0 ≤ tot c) :
    Calls Try.prog 78 #[v, .int .i64 e0, .int .i64 3] w (GivesR (lessL c (eqW c (tot c - e0))) w) := by
  have HV := Lib.hid hv
  have HH := Lib.hid hc
  have ht := hc.tot
  have TT := Lib.hid (fun W q => total_any v c W q hc)
  have E1 := Lib.hid (requal_any v c (tot c - e0) w hv hc (by omega) (by omega))
  have M1 := Lib.hid (eqW_bd hc (e := tot c - e0) (by omega) (by omega))
  have L1 := Lib.hid (eqW_length c (tot c - e0))
  have hhi := hc.hi
  have l8 : (eqW c (tot c - e0)).length ≤ 9223372036854775807 := by rw [L1.out]; omega
  clear hv hc
  generalize hg : eqW c (tot c - e0) = E at *
  clear hg
  generalize tot c = tt at *
  go_enter Try.func78, Try.ntmps78
  go_wp2_with fail
  refine (TT.out _ HV.out).mono ?_
  rintro e w' ⟨rfl, rfl⟩
  go_wp2_with fail
  refine E1.out.mono ?_
  rintro e w1 ⟨v1, rfl, ho, hb1⟩
  go_wp2_with fail
  refine (rless_any v v1 c E w1 (HV.out.below hb1) (ho.at l8) HH.out L1.out (mod_of M1.out (by omega) (by omega))).mono ?_
  rintro e w2 ⟨v2, rfl, ho2, hb2⟩
  have O := Lib.hid (ho2.base hb1.size)
  have B := Lib.hid (below_trans hb1 hb2)
  clear ho ho2 hb1 hb2
  go_wp2
  go_ret
  exact ⟨_, rfl, O.out, B.out⟩

set_option maxHeartbeats 1000000 in
theorem rshare_4 (v : Value) (c : List Int) (e0 : Int) (w : World) (hv : IntsAt w v c) (hc : Cvl c) (he : 0 ≤ e0) (hes : e0 ≤ tot c) :
    Calls Try.prog 78 #[v, .int .i64 e0, .int .i64 4] w (GivesR (oldL c e0) w) := by
  have HV := Lib.hid hv
  have HH := Lib.hid hc
  have ht := hc.tot
  have hhi := hc.hi
  have TT := Lib.hid (fun W q => total_any v c W q hc)
  by_cases h2 : tot c < 2 * e0
  · have OL : Hid (oldL c e0 = lessL c (halfL (eqW c (2 * (tot c - e0))))) := Lib.hid (by unfold oldL; rw [if_pos h2])
    have E1 := Lib.hid (rhalves_any requal_any v c (tot c - e0) w hv hc (by omega) (by omega))
    have M2 := Lib.hid (half_bd (eqW_bd hc (e := 2 * (tot c - e0)) (by omega) (by omega)))
    have L2 : Hid ((halfL (eqW c (2 * (tot c - e0)))).length = c.length) := Lib.hid (by rw [halfL_length, eqW_length])
    have l9 : (halfL (eqW c (2 * (tot c - e0)))).length ≤ 9223372036854775807 := by rw [L2.out]; omega
    rw [OL.out]
    clear OL hv hc
    generalize hg : halfL (eqW c (2 * (tot c - e0))) = E at *
    clear hg
    generalize tot c = tt at *
    go_enter Try.func78, Try.ntmps78
    go_wp2_with fail
    refine (TT.out _ HV.out).mono ?_
    rintro e w' ⟨rfl, rfl⟩
    go_wp2_with fail
    refine (TT.out _ HV.out).mono ?_
    rintro e w' ⟨rfl, rfl⟩
    go_wp2_with fail
    refine E1.out.mono ?_
    rintro e w1 ⟨v1, rfl, ho, hb1⟩
    go_wp2_with fail
    refine (rless_any v v1 c E w1 (HV.out.below hb1) (ho.at l9) HH.out L2.out (mod_of M2.out (by omega) (by omega))).mono ?_
    rintro e w2 ⟨v2, rfl, ho2, hb2⟩
    have O := Lib.hid (ho2.base hb1.size)
    have B := Lib.hid (below_trans hb1 hb2)
    clear ho ho2 hb1 hb2
    go_wp2
    go_ret
    exact ⟨_, rfl, O.out, B.out⟩
  · have OL : Hid (oldL c e0 = halfL (eqW c (2 * e0))) := Lib.hid (by unfold oldL; rw [if_neg h2])
    have E1 := Lib.hid (rhalves_any requal_any v c e0 w hv hc (by omega) (by omega))
    rw [OL.out]
    clear OL hv hc
    generalize tot c = tt at *
    go_enter Try.func78, Try.ntmps78
    go_wp2_with fail
    refine (TT.out _ HV.out).mono ?_
    rintro e w' ⟨rfl, rfl⟩
    go_wp2_with fail
    refine (TT.out _ HV.out).mono ?_
    rintro e w' ⟨rfl, rfl⟩
    go_wp2_with fail
    refine E1.out.mono ?_
    rintro e w1 ⟨v1, rfl, ho, hb1⟩
    have O := Lib.hid ho
    have B := Lib.hid hb1
    clear ho hb1
    go_wp2
    go_ret
    exact ⟨_, rfl, O.out, B.out⟩

theorem rshare_any (v : Value) (c : List Int) (n r : Int) (w : World) (hv : IntsAt w v c) (hc : Cvl c) (h1 : 0 ≤ n) (h2 : n ≤ tot c) (hr : 1 ≤ r ∧ r ≤ 4) :
    Calls Try.prog 78 #[v, .int .i64 n, .int .i64 r] w (GivesR (shareL c n r) w) := by
  have h4 : r = 1 ∨ r = 2 ∨ r = 3 ∨ r = 4 := by omega
  rcases h4 with rfl | rfl | rfl | rfl
  · exact rshare_1 v c n 1 w hv hc h1 (by have := hc.tot; omega) rfl rfl rfl
  · exact rshare_2 v c n w hv hc h1 h2
  · exact rshare_3 v c n w hv hc h1 h2
  · exact rshare_4 v c n w hv hc h1 h2

set_option maxHeartbeats 1000000 in
theorem rShare_any (v : Value) (c : List Int) (n r : Int) (w : World) (hv : IntsAt w v c) :
    Calls Try.prog 39 #[v, .int .i64 n, .int .i64 r] w (GivesS c n r w) := by
  by_cases h0 : shareE c n r = 0
  · obtain ⟨ha, h1, h2⟩ := shareE_ok h0
    obtain ⟨hc, h3, h4⟩ := askE_ok2 ha
    have S := Lib.hid (rshare_any v c n r w hv hc h3 h4 ⟨h1, h2⟩)
    have R := Lib.hid (rruled_any v c n r w hv)
    have E := Lib.hid h0
    have V : Hid (shareV c n r = shareL c n r) := Lib.hid (by unfold shareV; rw [if_pos h0])
    clear hv hc h0 ha
    go_enter Try.func39, Try.ntmps39
    go_wp2_with fail
    refine R.out.mono ?_
    rintro e w' ⟨rfl, rfl⟩
    rw [E.out]
    go_wp2_with fail
    refine S.out.mono ?_
    rintro e w1 ⟨v1, rfl, ho, hb⟩
    have O := Lib.hid ho
    have B := Lib.hid hb
    clear ho hb
    go_wp2
    go_ret2
    exact ⟨_, by rw [E.out]; rfl, by rw [V.out]; exact O.out, B.out⟩
  · have R := Lib.hid (rruled_any v c n r w hv)
    have hb : (shareE c n r != 0) = true := by rw [bne_iff_ne]; exact h0
    have V : Hid (shareV c n r = []) := Lib.hid (by unfold shareV; rw [if_neg h0])
    clear hv h0
    go_enter Try.func39, Try.ntmps39
    go_wp2_with fail
    refine R.out.mono ?_
    rintro e w' ⟨rfl, rfl⟩
    go_wp2
    go_ret2
    exact ⟨.slice none 0 0, rfl, by rw [V.out]; exact OwnR.nil _ _, Below.refl _ _⟩

end Go.Proofs.Ytaakefjblldccaa

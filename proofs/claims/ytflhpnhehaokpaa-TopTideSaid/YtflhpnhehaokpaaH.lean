/- Contracts: the reference's beat, Beat, Once, Round, Net; SameInts. -/
import Derived.Test.YtflhpnhehaokpaaG
namespace Go.Proofs.Ytflhpnhehaokpaa
open Go.RowKit

theorem repB_succ (f : Int → Int) (k b : Nat) : repB f (k + 1) b = (repB f k b && (f k == f ((k : Int) + b))) := by
  unfold repB
  rw [List.range_succ, List.all_append]
  simp

theorem ints_cell {w : World} {v : Value} {l : List Int} (h : IntsAt w v l) (h0 : 0 < l.length) :
    ∃ b off cap, v = .slice (some ⟨b, off, none⟩) l.length cap ∧ ∀ j, j < l.length → w.cell? ⟨b, off + j, none⟩ = some (.int .i64 (l.getD j 0)) := by
  obtain ⟨a, cap, rfl, _, hq⟩ := h
  obtain ⟨b, off, rfl, hc⟩ := hq h0
  exact ⟨b, off, cap, rfl, hc⟩


set_option maxHeartbeats 1000000 in
theorem rbeat_any (v : Value) (t : List (List Int)) (w : World) (hv : RowsAt w v t) (ht : Vld t) :
    Calls Try.prog 74 #[v] w fun e w' => e = .returned (.int .i64 (bt (spd t) (rnd t) : Nat)) ∧ Below w.heap.size w w' := by
  have hr := ht.rnd_pos
  have hr2 := ht.rnd_le
  have hper := spd_per t
  go_enter Try.func74, Try.ntmps74
  go_wp2_with (first
    | (go_at_call 72; refine (rround_any _ _ _ hv ht).mono ?_; rintro e w1 ⟨rfl, rfl⟩)
    | (go_at_call 75; refine (speeds_any _ _ _ _ hv ht (by omega)).mono ?_; rintro e w2 ⟨lv, rfl, hl, hb2⟩; have hlc := ints_cell hl (by rw [sps_length]; exact hr); rw [sps_length] at hlc; obtain ⟨lb, lo, lcap, rfl, hlcell⟩ := hlc))
  have LC := Lib.hid hlcell
  clear hl hlcell hv
  go_loopw [5] (fun i wr => ∃ b : Nat, 1 ≤ b ∧ b ≤ rnd t ∧ i = .int .i64 b ∧ Hid (btFrom (spd t) (rnd t) (rnd t - b) b = bt (spd t) (rnd t)) ∧ Below w2.heap.size w2 wr) (fun i _ => rnd t - (intOf i).toNat)
  case atStart => exact ⟨1, Nat.le_refl _, hr, rfl, rfl, Below.refl _ _⟩
  case round =>
    obtain ⟨b, hb0, hb, rfl, H, hbel⟩ := hrel
    by_cases hlt : b < rnd t
    · by_cases hd : rnd t % b = 0
      · have hD : ((rnd t : Int) % (b : Int) != 0) = false := by rw [← Int.natCast_emod, hd]; rfl
        obtain ⟨wo, rfl⟩ : ∃ wo : World, wo = wr := ⟨_, rfl⟩
        go_wp2
        go_loopw [6, 23] (fun s i wi => ∃ k : Nat, k ≤ rnd t ∧ i = .int .i64 k ∧ s = .bool (repB (spd t) k b) ∧ Below w2.heap.size w2 wi) (fun _ i _ => rnd t - (intOf i).toNat)
        case atStart => exact ⟨0, Nat.zero_le _, rfl, rfl, hbel⟩
        case round =>
          obtain ⟨k, hk, rfl, rfl, hbi⟩ := hrel
          clear hbel
          by_cases hlt2 : k < rnd t
          · have hs := repB_succ (spd t) k b
            have hm := Nat.mod_lt (k + b) hr
            have hc1 := LC.out k hlt2
            have hc2 := LC.out ((k + b) % rnd t) hm
            rw [sps_get _ _ _ hlt2] at hc1
            rw [sps_get _ _ _ hm, Int.natCast_emod, hper.mod, Int.natCast_add] at hc2
            have hc1' := keep_cell hbi hc1
            have hc2' := keep_cell hbi hc2
            clear hc1 hc2
            generalize spd t k = s1 at *
            generalize spd t ((k : Int) + b) = s2 at *
            have hm1 : 0 ≤ ((k : Int) + b) % (rnd t : Int) := Int.emod_nonneg _ (by omega)
            have hm2 : ((k : Int) + b) % (rnd t : Int) < rnd t := Int.emod_lt_of_pos _ (by omega)
            have hne : ((rnd t : Int) == 0) = false := beq_eq_false_iff_ne.2 (by omega)
            cases hp : repB (spd t) k b with
            | true =>
              by_cases he : s1 = s2
              · have hE : (s1 == s2) = true := by simpa using he
                rw [hp, hE] at hs
                have S := Lib.hid hs
                have PP := Lib.hid hp
                clear hs he hp
                go_wp2
                refine wp_region_quiet_lit (by kernel_rfl) (by kernel_rfl) ?_
                repeat (any_goals (first | go_big_quiet_step (fail) | quiet_step (fail)))
                all_goals (refine wpQuiet_nil ?_; intro _ hw'; obtain ⟨nq, hw''⟩ := hw'; subst hw'')
                all_goals go_wp2
                go_roundw
                case rel => exact ⟨k + 1, by omega, by go_num, by rw [S.out]; rfl, below_drewN hbi _⟩
                case measure => simp [intOf]; omega
              · have hE : (s1 == s2) = false := by simpa using he
                rw [hp, hE] at hs
                have S := Lib.hid hs
                have PP := Lib.hid hp
                clear hs he hp
                go_wp2
                refine wp_region_quiet_lit (by kernel_rfl) (by kernel_rfl) ?_
                repeat (any_goals (first | go_big_quiet_step (fail) | quiet_step (fail)))
                all_goals (refine wpQuiet_nil ?_; intro _ hw'; obtain ⟨nq, hw''⟩ := hw'; subst hw'')
                all_goals go_wp2
                go_roundw
                case rel => exact ⟨k + 1, by omega, by go_num, by rw [S.out]; rfl, below_drewN hbi _⟩
                case measure => simp [intOf]; omega
            | false =>
              rw [hp] at hs
              have S := Lib.hid hs
              have PP := Lib.hid hp
              clear hs hp
              go_wp2
              refine wp_region_quiet_lit (by kernel_rfl) (by kernel_rfl) ?_
              repeat (any_goals (first | go_big_quiet_step (fail) | quiet_step (fail)))
              all_goals (refine wpQuiet_nil ?_; intro _ hw'; obtain ⟨nq, hw''⟩ := hw'; subst hw'')
              all_goals go_wp2
              go_roundw
              case rel => exact ⟨k + 1, by omega, by go_num, by rw [S.out]; rfl, below_drewN hbi _⟩
              case measure => simp [intOf]; omega
          · have e : k = rnd t := by omega
            subst e
            cases hp : repB (spd t) (rnd t) b with
            | true =>
              have E := Lib.hid (btFrom_hit hlt ⟨hd, hp⟩)
              have PP := Lib.hid hp
              clear hp hd
              go_wp2
              go_ret
              exact ⟨ret_i (by rw [← H.out, E.out]), below_trans hb2 hbi⟩
            | false =>
              have E := Lib.hid (btFrom_miss (f := spd t) hlt (fun h => by rw [hp] at h; exact absurd h.2 (by simp)))
              have PP := Lib.hid hp
              clear hp hd
              go_wp2
              go_roundw
              case rel => exact ⟨b + 1, by omega, by omega, by go_num, by rw [← E.out]; exact H.out, hbi⟩
              case measure => simp [intOf]; omega
      · have hD : ((rnd t : Int) % (b : Int) != 0) = true := by rw [← Int.natCast_emod, bne_iff_ne]; omega
        have E := Lib.hid (btFrom_miss (f := spd t) hlt (fun h => hd h.1))
        clear hd
        go_wp2
        go_roundw
        case rel => exact ⟨b + 1, by omega, by omega, by go_num, by rw [← E.out]; exact H.out, hbel⟩
        case measure => simp [intOf]; omega
    · have e : b = rnd t := by omega
      have H' := H.out
      rw [e, btFrom_end] at H'
      have HH := Lib.hid H'
      clear H' H
      go_wp2
      go_ret
      exact ⟨ret_i (by rw [← HH.out]), below_trans hb2 hbel⟩

theorem eq_of_getD {l m : List Int} (hl : l.length = m.length) (h : ∀ j, j < l.length → l.getD j 0 = m.getD j 0) : l = m := by
  apply List.ext_getElem hl
  intro j h1 h2
  have := h j h1
  rwa [List.getD_eq_getElem?_getD, List.getD_eq_getElem?_getD, List.getElem?_eq_getElem h1, List.getElem?_eq_getElem h2] at this


theorem drewN_ex {w wr : World} (h : Hid (∃ q, wr = w.drewN q)) (n : Nat) : Hid (∃ q, wr.drewN n = w.drewN q) := by
  obtain ⟨q, rfl⟩ := h.out
  exact ⟨q + n, World.drewN_drewN _ _ _⟩
theorem drewN_below {w wr : World} (h : Hid (∃ q, wr = w.drewN q)) : Below w.heap.size w wr := by
  obtain ⟨q, rfl⟩ := h.out
  exact below_drewN (Below.refl _ _) q

set_option maxHeartbeats 1000000 in
theorem sameInts_q (v u : Value) (l m : List Int) (w : World) (hv : IntsAt w v l) (hu : IntsAt w u m) :
    Calls Try.prog 34 #[v, u] w fun e w' => e = .returned (.bool (decide (l = m))) ∧ Hid (∃ q, w' = w.drewN q) := by
  obtain ⟨a, cap, rfl, hl, hq⟩ := hv
  obtain ⟨a', cap', rfl, hl', hq'⟩ := hu
  by_cases hlen : l.length = m.length
  · have hE : ((l.length : Int) != (m.length : Int)) = false := by rw [hlen]; simp
    have HL := Lib.hid hlen
    have hle : l.length ≤ m.length := by omega
    clear hlen
    go_enter Try.func34, Try.ntmps34
    go_wp2
    go_loopw [13] (fun i wr => ∃ k : Nat, k ≤ l.length ∧ i = .int .i64 k ∧ Hid (∀ j, j < k → l.getD j 0 = m.getD j 0) ∧ Below w.heap.size w wr ∧ Hid (∃ q, wr = w.drewN q)) (fun i _ => l.length - (intOf i).toNat)
    case atStart => exact ⟨0, Nat.zero_le _, rfl, fun j hj => by omega, Below.refl _ _, ⟨0, rfl⟩⟩
    case round =>
      obtain ⟨k, hk, rfl, H, hbel, HQ⟩ := hrel
      by_cases hlt : k < l.length
      · obtain ⟨b, off, rfl, hc⟩ := hq (by omega)
        obtain ⟨b', off', rfl, hc'⟩ := hq' (by omega)
        have hx := keep_cell hbel (hc k hlt)
        have hy := keep_cell hbel (hc' k (by omega))
        have hm2 : k < m.length := by omega
        clear hc hc' hq hq'
        generalize hxx : l.getD k 0 = x at *
        generalize hyy : m.getD k 0 = y at *
        have X := Lib.hid hxx
        have Y := Lib.hid hyy
        clear hxx hyy
        by_cases he : x = y
        · have EQ := Lib.hid he
          have hE2 : (x != y) = false := by simpa using he
          clear he
          go_wp2
          refine wp_region_quiet_lit (by kernel_rfl) (by kernel_rfl) ?_
          repeat (any_goals (first | go_big_quiet_step (fail) | quiet_step (fail)))
          all_goals (refine wpQuiet_nil ?_; intro _ hw'; obtain ⟨nq, hw''⟩ := hw'; subst hw'')
          all_goals go_wp2
          go_roundw
          case rel => exact ⟨k + 1, by omega, by go_num, fun j hj => by
            rcases Nat.lt_succ_iff_lt_or_eq.1 hj with h | rfl
            · exact H.out j h
            · rw [X.out, Y.out]; exact EQ.out, below_drewN hbel _, drewN_ex HQ _⟩
          case measure => simp [intOf]; omega
        · have NE : Hid (decide (l = m) = false) := decide_eq_false (fun e => he (by rw [← X.out, ← Y.out, e]))
          have hE2 : (x != y) = true := by simpa using he
          clear he
          go_wp2
          refine wp_region_quiet_lit (by kernel_rfl) (by kernel_rfl) ?_
          repeat (any_goals (first | go_big_quiet_step (fail) | quiet_step (fail)))
          all_goals (refine wpQuiet_nil ?_; intro _ hw'; obtain ⟨nq, hw''⟩ := hw'; subst hw'')
          all_goals go_wp2
          go_ret
          exact ⟨ret_b (by rw [NE.out]), drewN_ex HQ _⟩
      · have e : k = l.length := by omega
        subst e
        have EQ : Hid (decide (l = m) = true) := decide_eq_true (eq_of_getD HL.out H.out)
        go_wp2
        go_ret
        exact ⟨ret_b (by rw [EQ.out]), HQ⟩
  · have hE : ((l.length : Int) != (m.length : Int)) = true := by rw [bne_iff_ne]; omega
    have NE : Hid (decide (l = m) = false) := decide_eq_false (fun e => hlen (by rw [e]))
    clear hlen
    go_enter Try.func34, Try.ntmps34
    go_wp2
    go_ret
    exact ⟨ret_b (by rw [NE.out]), ⟨0, rfl⟩⟩

set_option maxHeartbeats 1000000 in
theorem slEqual_q (v u : Value) (l m : List Int) (w : World) (hv : IntsAt w v l) (hu : IntsAt w u m) :
    Calls Try.prog 77 #[v, u] w fun e w' => e = .returned (.bool (decide (l = m))) ∧ Hid (∃ q, w' = w.drewN q) := by
  obtain ⟨a, cap, rfl, hl, hq⟩ := hv
  obtain ⟨a', cap', rfl, hl', hq'⟩ := hu
  by_cases hlen : l.length = m.length
  · have hE : ((l.length : Int) != (m.length : Int)) = false := by rw [hlen]; simp
    have HL := Lib.hid hlen
    have hle : l.length ≤ m.length := by omega
    clear hlen
    go_enter Try.func77, Try.ntmps77
    go_wp2
    go_loopw [13] (fun i wr => ∃ k : Nat, k ≤ l.length ∧ i = .int .i64 k ∧ Hid (∀ j, j < k → l.getD j 0 = m.getD j 0) ∧ Below w.heap.size w wr ∧ Hid (∃ q, wr = w.drewN q)) (fun i _ => l.length - (intOf i).toNat)
    case atStart => exact ⟨0, Nat.zero_le _, rfl, fun j hj => by omega, Below.refl _ _, ⟨0, rfl⟩⟩
    case round =>
      obtain ⟨k, hk, rfl, H, hbel, HQ⟩ := hrel
      by_cases hlt : k < l.length
      · obtain ⟨b, off, rfl, hc⟩ := hq (by omega)
        obtain ⟨b', off', rfl, hc'⟩ := hq' (by omega)
        have hx := keep_cell hbel (hc k hlt)
        have hy := keep_cell hbel (hc' k (by omega))
        have hm2 : k < m.length := by omega
        clear hc hc' hq hq'
        generalize hxx : l.getD k 0 = x at *
        generalize hyy : m.getD k 0 = y at *
        have X := Lib.hid hxx
        have Y := Lib.hid hyy
        clear hxx hyy
        by_cases he : x = y
        · have EQ := Lib.hid he
          have hE2 : (x != y) = false := by simpa using he
          clear he
          go_wp2
          refine wp_region_quiet_lit (by kernel_rfl) (by kernel_rfl) ?_
          repeat (any_goals (first | go_big_quiet_step (fail) | quiet_step (fail)))
          all_goals (refine wpQuiet_nil ?_; intro _ hw'; obtain ⟨nq, hw''⟩ := hw'; subst hw'')
          all_goals go_wp2
          go_roundw
          case rel => exact ⟨k + 1, by omega, by go_num, fun j hj => by
            rcases Nat.lt_succ_iff_lt_or_eq.1 hj with h | rfl
            · exact H.out j h
            · rw [X.out, Y.out]; exact EQ.out, below_drewN hbel _, drewN_ex HQ _⟩
          case measure => simp [intOf]; omega
        · have NE : Hid (decide (l = m) = false) := decide_eq_false (fun e => he (by rw [← X.out, ← Y.out, e]))
          have hE2 : (x != y) = true := by simpa using he
          clear he
          go_wp2
          refine wp_region_quiet_lit (by kernel_rfl) (by kernel_rfl) ?_
          repeat (any_goals (first | go_big_quiet_step (fail) | quiet_step (fail)))
          all_goals (refine wpQuiet_nil ?_; intro _ hw'; obtain ⟨nq, hw''⟩ := hw'; subst hw'')
          all_goals go_wp2
          go_ret
          exact ⟨ret_b (by rw [NE.out]), drewN_ex HQ _⟩
      · have e : k = l.length := by omega
        subst e
        have EQ : Hid (decide (l = m) = true) := decide_eq_true (eq_of_getD HL.out H.out)
        go_wp2
        go_ret
        exact ⟨ret_b (by rw [EQ.out]), HQ⟩
  · have hE : ((l.length : Int) != (m.length : Int)) = true := by rw [bne_iff_ne]; omega
    have NE : Hid (decide (l = m) = false) := decide_eq_false (fun e => hlen (by rw [e]))
    clear hlen
    go_enter Try.func77, Try.ntmps77
    go_wp2
    go_ret
    exact ⟨ret_b (by rw [NE.out]), ⟨0, rfl⟩⟩

theorem sameInts_any (v u : Value) (l m : List Int) (w : World) (hv : IntsAt w v l) (hu : IntsAt w u m) :
    Calls Try.prog 34 #[v, u] w fun e w' => e = .returned (.bool (decide (l = m))) ∧ Below w.heap.size w w' :=
  (sameInts_q v u l m w hv hu).mono fun _ _ ⟨he, hq⟩ => ⟨he, drewN_below hq⟩
theorem slEqual_any (v u : Value) (l m : List Int) (w : World) (hv : IntsAt w v l) (hu : IntsAt w u m) :
    Calls Try.prog 77 #[v, u] w fun e w' => e = .returned (.bool (decide (l = m))) ∧ Below w.heap.size w w' :=
  (slEqual_q v u l m w hv hu).mono fun _ _ ⟨he, hq⟩ => ⟨he, drewN_below hq⟩


set_option maxHeartbeats 400000 in
theorem rRound_any (v : Value) (t : List (List Int)) (w : World) (hv : RowsAt w v t) :
    Calls Try.prog 30 #[v] w fun e w' => e = .returned (.tuple #[.int .i64 (qi t true (rnd t : Nat)), .int .i64 (qe t true)]) ∧ Below w.heap.size w w' := by
  cases hy : vld t with
  | false =>
    rw [qi_no hy, qe_no hy]
    have Y := Lib.hid hy
    clear hy
    go_enter Try.func30, Try.ntmps30
    go_wp2_with (first
      | (go_at_call 22; refine (rValid_any _ _ _ hv).mono ?_; rintro e w' ⟨rfl, rfl⟩; rw [Y.out]))
    go_ret2
    exact ⟨rfl, Below.refl _ _⟩
  | true =>
    rw [qi_yes hy, qe_yes hy]
    have T := (vld_iff t).1 hy
    have hr2 := T.rnd_le
    have Y := Lib.hid hy
    clear hy
    go_enter Try.func30, Try.ntmps30
    go_wp2_with (first
      | (go_at_call 22; refine (rValid_any _ _ _ hv).mono ?_; rintro e w' ⟨rfl, rfl⟩; rw [Y.out])
      | (go_at_call 72; refine (rround_any _ _ _ hv T).mono ?_; rintro e w1 ⟨rfl, rfl⟩; have hb1 := Below.refl w.heap.size w))
    go_ret2
    exact ⟨rfl, hb1⟩

set_option maxHeartbeats 400000 in
theorem rNet_any (v : Value) (t : List (List Int)) (w : World) (hv : RowsAt w v t) :
    Calls Try.prog 31 #[v] w fun e w' => e = .returned (.tuple #[.int .i64 (qi t true (acc (spd t) 0 (rnd t))), .int .i64 (qe t true)]) ∧ Below w.heap.size w w' := by
  cases hy : vld t with
  | false =>
    rw [qi_no hy, qe_no hy]
    have Y := Lib.hid hy
    clear hy
    go_enter Try.func31, Try.ntmps31
    go_wp2_with (first
      | (go_at_call 22; refine (rValid_any _ _ _ hv).mono ?_; rintro e w' ⟨rfl, rfl⟩; rw [Y.out]))
    go_ret2
    exact ⟨rfl, Below.refl _ _⟩
  | true =>
    rw [qi_yes hy, qe_yes hy]
    have T := (vld_iff t).1 hy
    have hr2 := T.rnd_le
    have Y := Lib.hid hy
    clear hy
    go_enter Try.func31, Try.ntmps31
    go_wp2_with (first
      | (go_at_call 22; refine (rValid_any _ _ _ hv).mono ?_; rintro e w' ⟨rfl, rfl⟩; rw [Y.out])
      | (go_at_call 72; refine (rround_any _ _ _ hv T).mono ?_; rintro e w1 ⟨rfl, rfl⟩; have hb1 := Below.refl w.heap.size w) | (go_at_call 73; refine (rdrift_any _ _ _ _ _ hv T (by omega) (by omega) (by omega)).mono ?_; rintro e w1 ⟨rfl, rfl⟩))
    go_ret2
    exact ⟨rfl, hb1⟩

set_option maxHeartbeats 400000 in
theorem rBeat_any (v : Value) (t : List (List Int)) (w : World) (hv : RowsAt w v t) :
    Calls Try.prog 32 #[v] w fun e w' => e = .returned (.tuple #[.int .i64 (qi t true (bt (spd t) (rnd t) : Nat)), .int .i64 (qe t true)]) ∧ Below w.heap.size w w' := by
  cases hy : vld t with
  | false =>
    rw [qi_no hy, qe_no hy]
    have Y := Lib.hid hy
    clear hy
    go_enter Try.func32, Try.ntmps32
    go_wp2_with (first
      | (go_at_call 22; refine (rValid_any _ _ _ hv).mono ?_; rintro e w' ⟨rfl, rfl⟩; rw [Y.out]))
    go_ret2
    exact ⟨rfl, Below.refl _ _⟩
  | true =>
    rw [qi_yes hy, qe_yes hy]
    have T := (vld_iff t).1 hy
    have hr2 := T.rnd_le
    have Y := Lib.hid hy
    clear hy
    go_enter Try.func32, Try.ntmps32
    go_wp2_with (first
      | (go_at_call 22; refine (rValid_any _ _ _ hv).mono ?_; rintro e w' ⟨rfl, rfl⟩; rw [Y.out])
      | (go_at_call 74; refine (rbeat_any _ _ _ hv T).mono ?_; rintro e w1 ⟨rfl, hb1⟩))
    go_ret2
    exact ⟨rfl, hb1⟩

set_option maxHeartbeats 400000 in
theorem rOnce_any (v : Value) (t : List (List Int)) (w : World) (hv : RowsAt w v t) :
    Calls Try.prog 33 #[v] w (GivesLE (ql t true (sps t (bt (spd t) (rnd t)))) (qe t true) w) := by
  cases hy : vld t with
  | false =>
    rw [ql_no hy, qe_no hy]
    have Y := Lib.hid hy
    clear hy
    go_enter Try.func33, Try.ntmps33
    go_wp2_with (first
      | (go_at_call 22; refine (rValid_any _ _ _ hv).mono ?_; rintro e w' ⟨rfl, rfl⟩; rw [Y.out]))
    go_ret2
    exact ⟨_, rfl, nil_ints _, Below.refl _ _⟩
  | true =>
    rw [ql_yes hy, qe_yes hy]
    have T := (vld_iff t).1 hy
    have hr2 := T.rnd_le
    have hbl := bt_le (f := spd t) T.rnd_pos
    have Y := Lib.hid hy
    clear hy
    go_enter Try.func33, Try.ntmps33
    go_wp2_with (first
      | (go_at_call 22; refine (rValid_any _ _ _ hv).mono ?_; rintro e w' ⟨rfl, rfl⟩; rw [Y.out])
      | (go_at_call 74; refine (rbeat_any _ _ _ hv T).mono ?_; rintro e w1 ⟨rfl, hb1⟩)
      | (go_at_call 75; refine (speeds_any _ _ _ _ (hv.below hb1) T (by omega)).mono ?_; rintro e w2 ⟨ov, rfl, ho, hb2⟩))
    go_ret2
    exact ⟨_, rfl, ho, below_trans hb1 hb2⟩

end Go.Proofs.Ytflhpnhehaokpaa

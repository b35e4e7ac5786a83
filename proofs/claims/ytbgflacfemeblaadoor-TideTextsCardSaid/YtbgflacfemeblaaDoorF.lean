/- The reference's Valid; lists alike (out of the tide's texts). -/
import Derived.Test.YtbgflacfemeblaaDoorE
namespace Go.Proofs.YtbgflacfemeblaaDoor
open Go.RowKit

theorem vld_bad {t : List (List Int)} {k : Nat} (hk : k < t.length) (h : ¬ (1 ≤ (t.getD k []).length ∧ (t.getD k []).length ≤ 12 ∧ ∀ n ∈ t.getD k [], -100 ≤ n ∧ n ≤ 100)) : vld t = false := by
  cases hv : vld t with
  | false => rfl
  | true => exact absurd (((vld_iff t).1 hv).wave _ (getD_mem hk)) h

theorem vld_good {t : List (List Int)} (h : ∀ j, j < t.length → wvld (t.getD j []) = true) : vld t = (decide (1 ≤ t.length) && decide (t.length ≤ 4)) := by
  unfold vld
  rw [List.all_eq_true.2 (fun x hx => by
    obtain ⟨i, hi, rfl⟩ := List.getElem_of_mem hx
    have := h i hi
    rwa [List.getD_eq_getElem?_getD, List.getElem?_eq_getElem hi] at this), Bool.and_true]

theorem getD_mem' {l : List Int} {k : Nat} (hk : k < l.length) : l.getD k 0 ∈ l := by
  rw [List.getD_eq_getElem?_getD, List.getElem?_eq_getElem hk]; simp

theorem wave_ok {l : List Int} (h1 : 1 ≤ l.length) (h2 : l.length ≤ 12) (h : ∀ j, j < l.length → -100 ≤ l.getD j 0 ∧ l.getD j 0 ≤ 100) : wvld l = true :=
  (wvld_iff l).2 ⟨h1, h2, fun n hn => by
    obtain ⟨i, hi, rfl⟩ := List.getElem_of_mem hn
    have := h i hi
    rwa [List.getD_eq_getElem?_getD, List.getElem?_eq_getElem hi] at this⟩

set_option maxHeartbeats 1000000 in
theorem rValid_any (v : Value) (t : List (List Int)) (w : World) (hv : RowsAt w v t) :
    Calls Tryd.prog 14 #[v] w fun e w' => e = .returned (.bool (vld t)) ∧ w = w' := by
  obtain ⟨a, cap, rfl, hl, hq⟩ := hv
  go_enter Tryd.func14, Tryd.ntmps14
  go_wp2
  go_loop [9] (fun i => ∃ k : Nat, k ≤ t.length ∧ i = .int .i64 k ∧ Hid (∀ j, j < k → wvld (t.getD j []) = true)) (fun i => t.length - (intOf i).toNat)
  case atStart => exact ⟨0, Nat.zero_le _, rfl, fun j hj => by omega⟩
  case round =>
    obtain ⟨k, hk, rfl, H⟩ := hrel
    by_cases hlt : k < t.length
    · obtain ⟨b, off, rfl, hc⟩ := hq (by omega)
      obtain ⟨x, hx, hi⟩ := hc k hlt
      clear hc hq
      have B := Lib.hid (fun h => vld_bad hlt h)
      generalize hlk : t.getD k [] = lk at *
      have LK := Lib.hid hlk
      clear hlk
      obtain ⟨ra, rc, rfl, hrl, hrq⟩ := hi
      by_cases h1 : 1 ≤ lk.length
      · by_cases h2 : lk.length ≤ 12
        · go_wp2
          go_loop [23] (fun i => ∃ m : Nat, m ≤ lk.length ∧ i = .int .i64 m ∧ Hid (∀ j, j < m → -100 ≤ lk.getD j 0 ∧ lk.getD j 0 ≤ 100)) (fun i => lk.length - (intOf i).toNat)
          case atStart => exact ⟨0, Nat.zero_le _, rfl, fun j hj => by omega⟩
          case round =>
            obtain ⟨m, hm, rfl, HM⟩ := hrel
            by_cases hlt2 : m < lk.length
            · obtain ⟨rb, ro, rfl, hrc⟩ := hrq (by omega)
              have hcell := hrc m hlt2
              clear hrc hrq
              have MM := Lib.hid (getD_mem' hlt2)
              generalize hy : lk.getD m 0 = y at *
              have Y := Lib.hid hy
              clear hy
              by_cases h3 : y < -100
              · go_wp2
                go_ret
                exact ⟨by rw [B.out (fun h => by have := h.2.2 y MM.out; omega)]; rfl, rfl⟩
              · by_cases h4 : 100 < y
                · go_wp2
                  go_ret
                  exact ⟨by rw [B.out (fun h => by have := h.2.2 y MM.out; omega)]; rfl, rfl⟩
                · go_wp2
                  go_round
                  case rel => exact ⟨m + 1, by omega, by go_num, fun j hj => by
                    rcases Nat.lt_succ_iff_lt_or_eq.1 hj with h | rfl
                    · exact HM.out j h
                    · rw [Y.out]; omega⟩
                  case measure => simp [intOf]; omega
            · have e : m = lk.length := by omega
              subst e
              have W := Lib.hid (wave_ok h1 h2 HM.out)
              go_wp2
              go_round
              case rel => exact ⟨k + 1, by omega, by go_num, fun j hj => by
                rcases Nat.lt_succ_iff_lt_or_eq.1 hj with h | rfl
                · exact H.out j h
                · rw [LK.out]; exact W.out⟩
              case measure => simp [intOf]; omega
        · go_wp2
          go_ret
          exact ⟨by rw [B.out (fun h => h2 h.2.1)]; rfl, rfl⟩
      · go_wp2
        go_ret
        exact ⟨by rw [B.out (fun h => h1 h.1)]; rfl, rfl⟩
    · have e : k = t.length := by omega
      subst e
      have G := Lib.hid (vld_good H.out)
      by_cases h1 : 1 ≤ t.length
      · by_cases h2 : t.length ≤ 4
        · rw [decide_eq_true h1, decide_eq_true h2] at G
          go_wp2
          go_ret
          exact ⟨ret_b (by rw [G.out]; first | rfl | (simp; omega)), rfl⟩
        · rw [decide_eq_true h1, decide_eq_false h2] at G
          go_wp2
          go_ret
          exact ⟨ret_b (by rw [G.out]; first | rfl | (simp; omega)), rfl⟩
      · rw [decide_eq_false h1] at G
        go_wp2
        go_ret
        exact ⟨ret_b (by rw [G.out]; first | rfl | (simp; omega)), rfl⟩

theorem Tryd.infoInt : (Tryd.prog.info? 3).map (fun i => (i.zero, i.size, i.bytes)) = some (some (.int .i64 0), 1, 8) := by kernel_rfl

theorem nil_ints (w : World) : IntsAt w (.slice none 0 0) [] := ⟨none, 0, rfl, by simp, fun h => by simp at h⟩

theorem ints_cell {w : World} {v : Value} {l : List Int} (h : IntsAt w v l) (h0 : 0 < l.length) :
    ∃ b off cap, v = .slice (some ⟨b, off, none⟩) l.length cap ∧ ∀ j, j < l.length → w.cell? ⟨b, off + j, none⟩ = some (.int .i64 (l.getD j 0)) := by
  obtain ⟨a, cap, rfl, _, hq⟩ := h
  obtain ⟨b, off, rfl, hc⟩ := hq h0
  exact ⟨b, off, cap, rfl, hc⟩

theorem eq_of_getD {l m : List Int} (hl : l.length = m.length) (h : ∀ j, j < l.length → l.getD j 0 = m.getD j 0) : l = m := by
  apply List.ext_getElem hl
  intro j h1 h2
  have := h j h1
  rwa [List.getD_eq_getElem?_getD, List.getD_eq_getElem?_getD, List.getElem?_eq_getElem h1, List.getElem?_eq_getElem h2] at this

theorem drewN_ex {w wr : World} (h : Hid (∃ q, wr = w.drewN q)) (n : Nat) : Hid (∃ q, wr.drewN n = w.drewN q) := by
  obtain ⟨q, rfl⟩ := h.out
  exact ⟨q + n, World.drewN_drewN _ _ _⟩

theorem drewN_below {w wr : World} (h : Hid (∃ q, wr = w.drewN q)) : Below w.heap.size w wr := by
  obtain ⟨q, rfl⟩ := h.out
  exact below_drewN (Below.refl _ _) q

set_option maxHeartbeats 1000000 in
theorem sameInts_q (v u : Value) (l m : List Int) (w : World) (hv : IntsAt w v l) (hu : IntsAt w u m) :
    Calls Tryd.prog 18 #[v, u] w fun e w' => e = .returned (.bool (decide (l = m))) ∧ Hid (∃ q, w' = w.drewN q) := by
  obtain ⟨a, cap, rfl, hl, hq⟩ := hv
  obtain ⟨a', cap', rfl, hl', hq'⟩ := hu
  by_cases hlen : l.length = m.length
  · have hE : ((l.length : Int) != (m.length : Int)) = false := by rw [hlen]; simp
    have HL := Lib.hid hlen
    have hle : l.length ≤ m.length := by omega
    clear hlen
    go_enter Tryd.func18, Tryd.ntmps18
    go_wp2
    go_loopw [13] (fun i wr => ∃ k : Nat, k ≤ l.length ∧ i = .int .i64 k ∧ Hid (∀ j, j < k → l.getD j 0 = m.getD j 0) ∧ Below w.heap.size w wr ∧ Hid (∃ q, wr = w.drewN q)) (fun i _ => l.length - (intOf i).toNat)
    case atStart => exact ⟨0, Nat.zero_le _, rfl, fun j hj => by omega, Below.refl _ _, ⟨0, rfl⟩⟩
    case round =>
      obtain ⟨k, hk, rfl, H, hbel, HQ⟩ := hrel
      by_cases hlt : k < l.length
      · obtain ⟨b, off, rfl, hc⟩ := hq (by omega)
        obtain ⟨b', off', rfl, hc'⟩ := hq' (by omega)
        have hx := keep_cell hbel (hc k hlt)
        have hy := keep_cell hbel (hc' k (by omega))
        have hm2 : k < m.length := by omega
        clear hc hc' hq hq'
        generalize hxx : l.getD k 0 = x at *
        generalize hyy : m.getD k 0 = y at *
        have X := Lib.hid hxx
        have Y := Lib.hid hyy
        clear hxx hyy
        by_cases he : x = y
        · have EQ := Lib.hid he
          have hE2 : (x != y) = false := by simpa using he
          clear he
          go_wp2
          refine wp_region_quiet_lit (by kernel_rfl) (by kernel_rfl) ?_
          repeat (any_goals (first | go_big_quiet_step (fail) | quiet_step (fail)))
          all_goals (refine wpQuiet_nil ?_; intro _ hw'; obtain ⟨nq, hw''⟩ := hw'; subst hw'')
          all_goals go_wp2
          go_roundw
          case rel => exact ⟨k + 1, by omega, by go_num, fun j hj => by
            rcases Nat.lt_succ_iff_lt_or_eq.1 hj with h | rfl
            · exact H.out j h
            · rw [X.out, Y.out]; exact EQ.out, below_drewN hbel _, drewN_ex HQ _⟩
          case measure => simp [intOf]; omega
        · have NE : Hid (decide (l = m) = false) := decide_eq_false (fun e => he (by rw [← X.out, ← Y.out, e]))
          have hE2 : (x != y) = true := by simpa using he
          clear he
          go_wp2
          refine wp_region_quiet_lit (by kernel_rfl) (by kernel_rfl) ?_
          repeat (any_goals (first | go_big_quiet_step (fail) | quiet_step (fail)))
          all_goals (refine wpQuiet_nil ?_; intro _ hw'; obtain ⟨nq, hw''⟩ := hw'; subst hw'')
          all_goals go_wp2
          go_ret
          exact ⟨ret_b (by rw [NE.out]), drewN_ex HQ _⟩
      · have e : k = l.length := by omega
        subst e
        have EQ : Hid (decide (l = m) = true) := decide_eq_true (eq_of_getD HL.out H.out)
        go_wp2
        go_ret
        exact ⟨ret_b (by rw [EQ.out]), HQ⟩
  · have hE : ((l.length : Int) != (m.length : Int)) = true := by rw [bne_iff_ne]; omega
    have NE : Hid (decide (l = m) = false) := decide_eq_false (fun e => hlen (by rw [e]))
    clear hlen
    go_enter Tryd.func18, Tryd.ntmps18
    go_wp2
    go_ret
    exact ⟨ret_b (by rw [NE.out]), ⟨0, rfl⟩⟩

theorem sameInts_any (v u : Value) (l m : List Int) (w : World) (hv : IntsAt w v l) (hu : IntsAt w u m) :
    Calls Tryd.prog 18 #[v, u] w fun e w' => e = .returned (.bool (decide (l = m))) ∧ Below w.heap.size w w' :=
  (sameInts_q v u l m w hv hu).mono fun _ _ ⟨he, hq⟩ => ⟨he, drewN_below hq⟩

end Go.Proofs.YtbgflacfemeblaaDoor

/- Contracts: Highest and Farthest of the program. -/
import Derived.Test.YtflhpnhehaokpaaT
namespace Go.Proofs.Ytflhpnhehaokpaa
open Go.RowKit


set_option maxHeartbeats 1000000 in
theorem askedFound_any (v : Value) (t : List (List Int)) (right : Bool) (g : Nat) (lb : Array Value) (x y : Int) (w : World) (hv : RowsAt w v t)
    (eg : ∀ args w, (callFunc g args).run Try.prog w = .ok (.enter g args) w)
    (hg : vld t = true → right = true → ∀ W tv, RowsAt W tv t → Below w.heap.size w W → Calls Try.prog g (#[tv] ++ lb) W fun e W' => e = .returned (.agg #[.int .i64 x, .int .i64 y]) ∧ Below W.heap.size W W') :
    Calls Try.prog 83 #[v, .bool right, .func (.func g) #[] lb] w fun e w' => e = .returned (.tuple #[.agg #[.int .i64 (qi t right x), .int .i64 (qi t right y)], .int .i64 (qe t right)]) ∧ Below w.heap.size w w' := by
  have hal : Below w.heap.size w ((w.alloc (.cells #[.int .i64 0, .int .i64 0] 81)).alloc (.cells #[.int .i64 0, .int .i64 0] 81)) := ((Below.refl _ w).alloc (Nat.le_refl _) _).alloc (by simp) _
  have hv1 := hv.below hal
  cases hy : vld t with
  | false =>
    rw [qi_no hy, qi_no hy, qe_no hy]
    clear hg hv
    go_enter Try.func83, Try.ntmps83
    go_wp2_with (go_at_call 76; refine (newTide_no _ _ _ hv1 hy).mono ?_; rintro e w' ⟨rfl, rfl⟩)
    refine bodyPost_ret (v := .tuple #[.agg #[.int .i64 0, .int .i64 0], .int .i64 10]) (by simp [results, Try.results83, go_sem]) rfl ⟨rfl, ?_⟩
    repeat (first | assumption | exact Below.refl _ _ | refine Below.setCell ?_ (by simp) _ | refine Below.alloc ?_ (by simp) _)
  | true =>
    cases right with
    | false =>
      rw [qi_mid, qi_mid, qe_mid hy]
      clear hg hv
      go_enter Try.func83, Try.ntmps83
      go_wp2_with fail
      refine (newTide_yes _ _ _ hv1 hy).mono ?_
      rintro e w1 ⟨tv, rfl, hr, hb⟩
      have c0 : (w1).cell? ⟨w.heap.size, 0, none⟩ = some (.int .i64 0) := (hb.cell (p := ⟨w.heap.size, 0, none⟩) (by simp <;> omega)).trans (by simp)
      have c1 : (w1).cell? ⟨w.heap.size, 1, none⟩ = some (.int .i64 0) := (hb.cell (p := ⟨w.heap.size, 1, none⟩) (by simp <;> omega)).trans (by simp)
      have f0 : (w1).frozen? ⟨w.heap.size, 0, none⟩ = false := (hb.frozen (p := ⟨w.heap.size, 0, none⟩) (by simp <;> omega)).trans (by simp)
      have f1 : (w1).frozen? ⟨w.heap.size, 1, none⟩ = false := (hb.frozen (p := ⟨w.heap.size, 1, none⟩) (by simp <;> omega)).trans (by simp)
      have c2 : (w1).cell? ⟨w.heap.size + 1, 0, none⟩ = some (.int .i64 0) := (hb.cell (p := ⟨w.heap.size + 1, 0, none⟩) (by simp <;> omega)).trans (by simp)
      have c3 : (w1).cell? ⟨w.heap.size + 1, 1, none⟩ = some (.int .i64 0) := (hb.cell (p := ⟨w.heap.size + 1, 1, none⟩) (by simp <;> omega)).trans (by simp)
      go_wp2
      refine bodyPost_ret (v := .tuple #[.agg #[.int .i64 (0), .int .i64 (0)], .int .i64 2]) (by simp [results, Try.results83, go_sem, c0, c1]) rfl ⟨rfl, ?_⟩
      refine Below.setCell (Below.setCell ?_ (by simp) _) (by simp) _
      exact ((((Below.refl _ w).alloc (Nat.le_refl _) _).alloc (by simp) _).trans (hb.mono (by simp; omega)))
    | true =>
      rw [qi_yes hy, qi_yes hy, qe_yes hy]
      have hg' := hg hy rfl
      have HG := Lib.hid hg'
      clear hg hg' hv
      go_enter Try.func83, Try.ntmps83
      go_wp2_with fail
      refine (newTide_yes _ _ _ hv1 hy).mono ?_
      rintro e w1 ⟨tv, rfl, hr, hb⟩
      go_wp2_with fail
      go_at_fn g
      refine (HG.out _ _ hr (below_trans hal hb)).mono ?_
      rintro e w2 ⟨rfl, hb2⟩
      have hb3 := below_trans hb hb2
      have c0 : (w2).cell? ⟨w.heap.size, 0, none⟩ = some (.int .i64 0) := (hb3.cell (p := ⟨w.heap.size, 0, none⟩) (by simp <;> omega)).trans (by simp)
      have c1 : (w2).cell? ⟨w.heap.size, 1, none⟩ = some (.int .i64 0) := (hb3.cell (p := ⟨w.heap.size, 1, none⟩) (by simp <;> omega)).trans (by simp)
      have f0 : (w2).frozen? ⟨w.heap.size, 0, none⟩ = false := (hb3.frozen (p := ⟨w.heap.size, 0, none⟩) (by simp <;> omega)).trans (by simp)
      have f1 : (w2).frozen? ⟨w.heap.size, 1, none⟩ = false := (hb3.frozen (p := ⟨w.heap.size, 1, none⟩) (by simp <;> omega)).trans (by simp)
      have c2 : (w2).cell? ⟨w.heap.size + 1, 0, none⟩ = some (.int .i64 0) := (hb3.cell (p := ⟨w.heap.size + 1, 0, none⟩) (by simp <;> omega)).trans (by simp)
      have c3 : (w2).cell? ⟨w.heap.size + 1, 1, none⟩ = some (.int .i64 0) := (hb3.cell (p := ⟨w.heap.size + 1, 1, none⟩) (by simp <;> omega)).trans (by simp)
      go_wp2
      refine bodyPost_ret (v := .tuple #[.agg #[.int .i64 (x), .int .i64 (y)], .int .i64 0]) (by simp [results, Try.results83, go_sem, c0, c1]) rfl ⟨rfl, ?_⟩
      refine Below.setCell (Below.setCell ?_ (by simp) _) (by simp) _
      exact ((((Below.refl _ w).alloc (Nat.le_refl _) _).alloc (by simp) _).trans (hb3.mono (by simp; omega)))

theorem highest1_any (v : Value) (t : List (List Int)) (w : World) (hv : RowsAt w v t) (ht : Vld t) :
    Calls Try.prog 84 #[v] w fun e w' => e = .returned (.agg #[.int .i64 (fmI (spN t) (rnd t)), .int .i64 (fmV (spN t) (rnd t))]) ∧ Below w.heap.size w w' := by
  have hal : Below w.heap.size w (w.alloc (.cells #[.int .i64 0, .int .i64 0] 81)) := (Below.refl _ w).alloc (Nat.le_refl _) _
  have hr := ht.rnd_pos
  have hb := bt_pos (f := spd t) hr
  have hb2 := bt_le (f := spd t) hr
  have hp := bt_per hr (spd_per t)
  have hv1 := hv.below hal
  have HF : Hid (∀ (i : Nat) (m : Int), IsFM (fun k => (onceL t).getD k 0) (onceL t).length i m → (i : Int) = fmI (spN t) (rnd t) ∧ m = fmV (spN t) (rnd t)) := fun i m h => by
    unfold onceL at h
    rw [sps_length] at h
    refine fm_of hb hb2 (fun k => spN_mod hp k) ⟨h.lt, ?_, fun j hj => ?_, fun j hj => ?_⟩
    · have := h.eq; simp only [sps_get _ _ _ h.lt] at this; exact this
    · have := h.le j hj; simp only [sps_get _ _ _ hj] at this; exact this
    · have := h.fst j hj; simp only [sps_get _ _ _ (Nat.lt_trans hj h.lt)] at this; exact this
  have hlen : 0 < (onceL t).length := by unfold onceL; rw [sps_length]; exact hb
  clear hv
  go_enter Try.func84, Try.ntmps84
  go_wp2_with fail
  refine (once_any _ _ _ hv1 ht).mono ?_
  rintro e w1 ⟨ov, rfl, ho, hb1⟩
  go_wp2_with fail
  refine (first_any _ _ _ ho hlen).mono ?_
  rintro e w2 ⟨i, m, rfl, hF, hbb⟩
  have hb3 := below_trans hb1 hbb
  have c0 : w2.cell? ⟨w.heap.size, 0, none⟩ = some (.int .i64 0) := (hb3.cell (p := ⟨w.heap.size, 0, none⟩) (by simp)).trans (by simp)
  have c1 : w2.cell? ⟨w.heap.size, 1, none⟩ = some (.int .i64 0) := (hb3.cell (p := ⟨w.heap.size, 1, none⟩) (by simp)).trans (by simp)
  have f0 : w2.frozen? ⟨w.heap.size, 0, none⟩ = false := (hb3.frozen (p := ⟨w.heap.size, 0, none⟩) (by simp)).trans (by simp)
  have f1 : w2.frozen? ⟨w.heap.size, 1, none⟩ = false := (hb3.frozen (p := ⟨w.heap.size, 1, none⟩) (by simp)).trans (by simp)
  go_wp2
  obtain ⟨e1, e2⟩ := HF.out i m hF
  refine bodyPost_ret (v := .agg #[.int .i64 i, .int .i64 m]) (by simp [results, Try.results84, go_sem, c0, c1]) rfl ⟨by rw [e1, e2], ?_⟩
  refine Below.setCell (Below.setCell ?_ (by simp) _) (by simp) _
  exact (((Below.refl _ w).alloc (Nat.le_refl _) _).trans (hb3.mono (by simp)))

set_option maxHeartbeats 1000000 in
theorem tHighest_any (v : Value) (t : List (List Int)) (w : World) (hv : RowsAt w v t) :
    Calls Try.prog 45 #[v] w fun e w' => e = .returned (.tuple #[.int .i64 (qi t true (fmI (spN t) (rnd t))), .int .i64 (qi t true (fmV (spN t) (rnd t))), .int .i64 (qe t true)]) ∧ Below w.heap.size w w' := by
  have HA := askedFound_any v t true 84 #[] (fmI (spN t) (rnd t)) (fmV (spN t) (rnd t)) _ hv (enters_of Try.func84 (by kernel_rfl) rfl)
    (fun hy _ W tv hr hb => highest1_any tv t W hr ((vld_iff t).1 hy))
  have H := Lib.hid HA
  clear HA hv
  go_enter Try.func45, Try.ntmps45
  go_wp2_with (go_at_call 83; refine H.out.mono ?_; rintro e w1 ⟨rfl, hb1⟩)
  go_region
  all_goals go_wp2
  all_goals go_ret3
  exact ⟨rfl, (hb1.alloc hb1.size _).drew⟩

theorem onceN {b n : Nat} (hn : b ≤ n) {i : Nat} {m : Int} {l : List Int} (f : Nat → Int) (hb : 0 < b) (hp : ∀ k, f (k % b) = f k) (hl : l.length = b) (hg : ∀ k, k < b → l.getD k 0 = f k)
    (h : IsFM (fun k => l.getD k 0) l.length i m) : (i : Int) = fmI f n ∧ m = fmV f n := by
  rw [hl] at h
  refine fm_of hb hn hp ⟨h.lt, ?_, fun j hj => ?_, fun j hj => ?_⟩
  · have := h.eq; simp only [hg _ h.lt] at this; exact this
  · have := h.le j hj; simp only [hg _ hj] at this; exact this
  · have := h.fst j hj; simp only [hg _ (Nat.lt_trans hj h.lt)] at this; exact this

/-- The drifts over n hours from the first k hours. -/
def drs (t : List (List Int)) (n k : Nat) : List Int := (List.range k).map fun j => acN t n j
theorem drs_length (t : List (List Int)) (n k : Nat) : (drs t n k).length = k := by simp [drs]
theorem drs_succ (t : List (List Int)) (n k : Nat) : drs t n (k + 1) = drs t n k ++ [acN t n k] := by simp [drs, List.range_succ]
theorem drs_get (t : List (List Int)) (n k j : Nat) (h : j < k) : (drs t n k).getD j 0 = acN t n j := by simp [drs, List.getD_eq_getElem?_getD, h]

theorem acN_bd {t : List (List Int)} (h : Vld t) (n k : Nat) : -(400 * (n : Int)) ≤ acN t n k ∧ acN t n k ≤ 400 * n := some_bd h k n

set_option maxHeartbeats 1000000 in
theorem farthest1_any (v : Value) (t : List (List Int)) (n : Nat) (B : Nat) (w : World) (hv : RowsAt w v t) (ht : Vld t) (hn : n ≤ 1000000) (hB : w.cell? ⟨B, 0, none⟩ = some (.int .i64 n)) :
    Calls Try.prog 86 #[v, .pointer (some ⟨B, 0, none⟩)] w fun e w' => e = .returned (.agg #[.int .i64 (fmI (acN t n) (rnd t)), .int .i64 (fmV (acN t n) (rnd t))]) ∧ Below w.heap.size w w' := by
  have hal : Below w.heap.size w (w.alloc (.cells #[.int .i64 0, .int .i64 0] 81)) := (Below.refl _ w).alloc (Nat.le_refl _) _
  obtain ⟨i0, hi0, hz0, hz1, hz2⟩ := info_parts Try.infoInt
  have hr := ht.rnd_pos
  have hr2 := ht.rnd_le
  have hb := bt_pos (f := spd t) hr
  have hb2 := bt_le (f := spd t) hr
  have hp := bt_per hr (spd_per t)
  have hv1 := hv.below hal
  have hB1 := keep_cell hal hB
  have HF : Hid (∀ (i : Nat) (m : Int), IsFM (fun k => (drs t n (bt (spd t) (rnd t))).getD k 0) (drs t n (bt (spd t) (rnd t))).length i m → (i : Int) = fmI (acN t n) (rnd t) ∧ m = fmV (acN t n) (rnd t)) := fun i m h =>
    onceN hb2 (acN t n) hb (fun k => acN_mod hp n k) (drs_length _ _ _) (fun k hk => drs_get _ _ _ _ hk) h
  clear hv hB hp
  go_enter Try.func86, Try.ntmps86
  go_wp2_with fail
  refine (drift_any _ _ _ _ _ hv1 ht (by omega) (by omega) (by omega)).mono ?_
  rintro e w1 ⟨rfl, hb1⟩
  go_wp2_with fail
  refine (beat_any _ _ _ (hv1.below hb1) ht).mono ?_
  rintro e w2 ⟨rfl, hbb⟩
  have hb3 := below_trans hb1 hbb
  have hv2 := hv1.below hb3
  have hB2 := keep_cell hb3 hB1
  have k0 : w2.cell? ⟨w.heap.size, 0, none⟩ = some (.int .i64 0) := (hb3.cell (p := ⟨w.heap.size, 0, none⟩) (by simp)).trans (by simp)
  have k1 : w2.cell? ⟨w.heap.size, 1, none⟩ = some (.int .i64 0) := (hb3.cell (p := ⟨w.heap.size, 1, none⟩) (by simp)).trans (by simp)
  have g0 : w2.frozen? ⟨w.heap.size, 0, none⟩ = false := (hb3.frozen (p := ⟨w.heap.size, 0, none⟩) (by simp)).trans (by simp)
  have g1 : w2.frozen? ⟨w.heap.size, 1, none⟩ = false := (hb3.frozen (p := ⟨w.heap.size, 1, none⟩) (by simp)).trans (by simp)
  have hlt2 : w.heap.size < w2.heap.size := by have := hb3.size; simp only [World.size_alloc] at this; omega
  have B0 : Below w.heap.size w w2 := (((Below.refl _ w).alloc (Nat.le_refl _) _).trans (hb3.mono (by simp)))
  clear hb1 hbb hb3 hv1 hB1
  generalize bt (spd t) (rnd t) = b at *
  go_wp2
  go_loopw [4, 5, 12] (fun now o i wr => ∃ k : Nat, k ≤ b ∧ i = .int .i64 k ∧ now = .int .i64 (acN t n k) ∧ wr.ownsRow w2.heap.size 3 1 o k ((drs t n k).map (Value.int .i64)) ∧ Below w2.heap.size w2 wr)
    (fun _ _ i _ => b - (intOf i).toNat)
  case atStart => exact ⟨0, Nat.zero_le _, rfl, rfl, World.ownsRow_nil _ _ _ _, Below.refl _ _⟩
  case round =>
    obtain ⟨k, hk, rfl, rfl, hown, hbel⟩ := hrel
    have hsz := hbel.size
    by_cases hlt : k < b
    · have S := Lib.hid (drs_succ t n k)
      have A := Lib.hid (acN_succ t n k)
      have bd1 := acN_bd ht n k
      have bd2 := ht.bd ((k : Int) + n)
      have bd3 := ht.bd k
      have HV := Lib.hid hv2
      have HBB := Lib.hid hB2
      clear hv2 hB2
      go_wp2_with (first
        | (at_builtin; refine wpList_append_own _ rfl _ _ 34 rfl w2.heap.size 3 i0 (.int .i64 0) 1 8 Try.underlying34 hi0 hz0 hz1 hz2 rfl (by decide) _ _ _ rfl (hown.alloc _) ⟨wr.heap.size, 0, none⟩ 1 1 [.int .i64 (acN t n k)] rfl rfl (cell_one_new _ _ _) ?c2 ?c3 ?c4 ?c5 ?_))
      case c2 => first | rfl | (intro u hu; simp at hu; subst hu; rfl)
      case c3 => unfold maxLen; omega
      case c4 => omega
      case c5 => first | omega | (simp; omega)
      · intro v' w3 hown' hgrow _
        have R := below_append hbel hsz hown hgrow
        have hv3 := HV.out.below R
        have hB3 := keep_cell R HBB.out
        clear hown hgrow hbel
        go_wp2_with fail
        refine (speed_any _ _ _ _ hv3 ht).mono ?_
        rintro e w' ⟨rfl, rfl⟩
        go_wp2_with fail
        refine (speed_any _ _ _ _ hv3 ht).mono ?_
        rintro e w' ⟨rfl, rfl⟩
        go_wp2
        go_roundw
        case rel => exact ⟨k + 1, by omega, by go_num, by rw [A.out], by rw [S.out, List.map_append]; exact hown', R⟩
        case measure => simp [intOf]; omega
    · have e : k = b := by omega
      subst e
      have ho := own_ints (e := 3) (base := w2.heap.size) (W := wr) (l := drs t n k) (by rw [drs_length]; exact hown) (by rw [drs_length]; omega)
      have hlen : 0 < (drs t n k).length := by rw [drs_length]; exact hb
      clear hown
      go_wp2_with fail
      refine (first_any _ _ _ ho hlen).mono ?_
      rintro e w3 ⟨i, m, rfl, hF, hb4⟩
      obtain ⟨e1, e2⟩ := HF.out i m hF
      have hb5 := below_trans hbel hb4
      have c0 := keep_cell hb5 k0
      have c1 := keep_cell hb5 k1
      have f0 : w3.frozen? ⟨w.heap.size, 0, none⟩ = false := (hb5.frozen (p := ⟨w.heap.size, 0, none⟩) hlt2).trans g0
      have f1 : w3.frozen? ⟨w.heap.size, 1, none⟩ = false := (hb5.frozen (p := ⟨w.heap.size, 1, none⟩) hlt2).trans g1
      have E1 := Lib.hid e1
      have E2 := Lib.hid e2
      clear e1 e2 hF
      go_wp2
      refine bodyPost_ret (v := .agg #[.int .i64 i, .int .i64 m]) (by simp [results, Try.results86, go_sem, c0, c1]) rfl ⟨by rw [E1.out, E2.out], ?_⟩
      exact ((below_trans B0 hb5).setCell (Nat.le_refl _) _).setCell (Nat.le_refl _) _

set_option maxHeartbeats 1000000 in
theorem tFarthest_any (v : Value) (t : List (List Int)) (n : Int) (w : World) (hv : RowsAt w v t) :
    Calls Try.prog 47 #[v, .int .i64 n] w fun e w' => e = .returned (.tuple #[.int .i64 (qi t (spanB n) (fmI (acN t n.toNat) (rnd t))), .int .i64 (qi t (spanB n) (fmV (acN t n.toNat) (rnd t))), .int .i64 (qe t (spanB n))]) ∧ Below w.heap.size w w' := by
  have hal : Below w.heap.size w (w.alloc (.cells #[.int .i64 n] 3)) := (Below.refl _ w).alloc (Nat.le_refl _) _
  have hv1 := hv.below hal
  have hc1 : (w.alloc (.cells #[.int .i64 n] 3)).cell? ⟨w.heap.size, 0, none⟩ = some (.int .i64 n) := by simp
  have HA := askedFound_any v t (spanB n) 86 #[.pointer (some ⟨w.heap.size, 0, none⟩)] (fmI (acN t n.toNat) (rnd t)) (fmV (acN t n.toNat) (rnd t)) _ hv1 (enters_of Try.func86 (by kernel_rfl) rfl)
    (fun hy hs W tv hr hb => by
      have := (spanB_iff n).1 hs
      obtain ⟨k, rfl⟩ := Int.eq_ofNat_of_zero_le this.1
      exact farthest1_any tv t k w.heap.size W hr ((vld_iff t).1 hy) (by omega) (keep_cell hb hc1))
  have H := Lib.hid HA
  clear HA hv hv1 hc1
  unfold spanB at *
  go_enter Try.func47, Try.ntmps47
  go_wp2_with (first | (go_at_call 54; refine (between_any _ _ _ _).mono ?_; rintro e w' ⟨rfl, rfl⟩) | (go_at_call 83; refine H.out.mono ?_; rintro e w1 ⟨rfl, hb1⟩))
  go_region
  all_goals go_wp2
  all_goals go_ret3
  exact ⟨rfl, ((below_trans hal hb1).alloc (below_trans hal hb1).size _).drew⟩

end Go.Proofs.Ytflhpnhehaokpaa

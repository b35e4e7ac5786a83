/- Contracts: the speeds of a beat (Once), of the program and of the reference; the reference's Round, Net, Beat; SameInts. -/
import Derived.Test.YtflhpnhehaokpaaV
namespace Go.Proofs.Ytflhpnhehaokpaa
open Go.RowKit

theorem Try.infoInt : (Try.prog.info? 3).map (fun i => (i.zero, i.size, i.bytes)) = some (some (.int .i64 0), 1, 8) := by kernel_rfl

/-- The speeds of the first n hours. -/
def sps (t : List (List Int)) (n : Nat) : List Int := (List.range n).map fun (k : Nat) => spd t (k : Int)
theorem sps_length (t : List (List Int)) (n : Nat) : (sps t n).length = n := by simp [sps]
theorem sps_succ (t : List (List Int)) (n : Nat) : sps t (n + 1) = sps t n ++ [spd t n] := by simp [sps, List.range_succ]
theorem sps_get (t : List (List Int)) (n k : Nat) (h : k < n) : (sps t n).getD k 0 = spd t k := by simp [sps, List.getD_eq_getElem?_getD, h]

/-- A list that is handed back in new memory. -/
def GivesL (l : List Int) (w : World) (e : Ending) (w' : World) : Prop := ∃ ov, e = .returned ov ∧ IntsAt w' ov l ∧ Below w.heap.size w w'

set_option maxHeartbeats 400000 in
theorem once_any (v : Value) (t : List (List Int)) (w : World) (hv : RowsAt w v t) (ht : Vld t) :
    Calls Try.prog 66 #[v] w (GivesL (sps t (bt (spd t) (rnd t))) w) := by
  have hr := ht.rnd_pos
  have hr2 := ht.rnd_le
  have hb := bt_le (f := spd t) hr
  obtain ⟨i0, hi0, hz0, hz1, hz2⟩ := info_parts Try.infoInt
  go_enter Try.func66, Try.ntmps66
  go_wp2_with (go_at_call 64; refine (beat_any _ _ _ hv ht).mono ?_; rintro e w1 ⟨rfl, hb1⟩)
  generalize bt (spd t) (rnd t) = n at *
  go_loopw [3, 7] (fun o i wr => ∃ k : Nat, k ≤ n ∧ i = .int .i64 k ∧ wr.ownsRow w.heap.size 3 1 o k ((sps t k).map (Value.int .i64)) ∧ Below w.heap.size w wr)
    (fun _ i _ => n - (intOf i).toNat)
  case atStart => exact ⟨0, Nat.zero_le _, rfl, World.ownsRow_nil _ _ _ _, hb1⟩
  case round =>
    obtain ⟨k, hk, rfl, hown, hbel⟩ := hrel
    have hsz := hbel.size
    clear hb1
    by_cases hlt : k < n
    · have hvr := hv.below hbel
      have hs := sps_succ t k
      have S := Lib.hid hs
      clear hv hs
      go_wp2_with (first
        | (go_at_call 52; refine (speed_any _ _ _ _ hvr ht).mono ?_; rintro e w' ⟨rfl, rfl⟩)
        | (at_builtin; refine wpList_append_own _ rfl _ _ 34 rfl w.heap.size 3 i0 (.int .i64 0) 1 8 Try.underlying34 hi0 hz0 hz1 hz2 rfl (by decide) _ _ _ rfl (hown.alloc _) ⟨wr.heap.size, 0, none⟩ 1 1 [.int .i64 (spd t k)] rfl rfl ?c1 ?c2 ?c3 ?c4 ?c5 ?_))
      case c1 => exact (cell_one_new _ _ _)
      case c2 => intro u hu; simp at hu; subst hu; rfl
      case c3 => unfold maxLen; omega
      case c4 => omega
      case c5 => simp; omega
      · intro v' w2 hown' hgrow _
        have R := below_append hbel hsz hown hgrow
        clear hown hgrow hbel
        go_wp2
        go_roundw
        case rel => exact ⟨k + 1, by omega, by go_num, by rw [S.out, List.map_append]; exact hown', R⟩
        case measure => simp [intOf]; omega
    · have e : k = n := by omega
      subst e
      go_wp2
      go_ret
      exact ⟨_, rfl, own_ints (by rw [sps_length]; exact hown) (by rw [sps_length]; omega), hbel⟩

/-- What is asked of a tide that is a list. -/
def ql (t : List (List Int)) (right : Bool) (l : List Int) : List Int := if vld t && right then l else []
theorem ql_no {t : List (List Int)} (h : vld t = false) (r : Bool) (l : List Int) : ql t r l = [] := by simp [ql, h]
theorem ql_mid {t : List (List Int)} (l : List Int) : ql t false l = [] := by simp [ql]
theorem ql_yes {t : List (List Int)} (h : vld t = true) (l : List Int) : ql t true l = l := by simp [ql, h]

theorem nil_ints (w : World) : IntsAt w (.slice none 0 0) [] := ⟨none, 0, rfl, by simp, fun h => by simp at h⟩

/-- A list, and an error. -/
def GivesLE (l : List Int) (e0 : Int) (w : World) (e : Ending) (w' : World) : Prop := ∃ ov, e = .returned (.tuple #[ov, .int .i64 e0]) ∧ IntsAt w' ov l ∧ Below w.heap.size w w'

set_option maxHeartbeats 400000 in
theorem askedInts_any (v : Value) (t : List (List Int)) (right : Bool) (g : Nat) (lb : Array Value) (l : List Int) (w : World) (hv : RowsAt w v t)
    (eg : ∀ args w, (callFunc g args).run Try.prog w = .ok (.enter g args) w)
    (hg : vld t = true → right = true → ∀ W tv, RowsAt W tv t → Below w.heap.size w W → Calls Try.prog g (#[tv] ++ lb) W (GivesL l W)) :
    Calls Try.prog 65 #[v, .bool right, .func (.func g) #[] lb] w (GivesLE (ql t right l) (qe t right) w) := by
  cases hy : vld t with
  | false =>
    rw [ql_no hy, qe_no hy]
    clear hg
    go_enter Try.func65, Try.ntmps65
    go_wp2_with (go_at_call 76; refine (newTide_no _ _ _ hv hy).mono ?_; rintro e w' ⟨rfl, rfl⟩)
    go_ret2
    exact ⟨_, rfl, nil_ints _, Below.refl _ _⟩
  | true =>
    cases right with
    | false =>
      rw [ql_mid, qe_mid hy]
      clear hg
      go_enter Try.func65, Try.ntmps65
      go_wp2_with (go_at_call 76; refine (newTide_yes _ _ _ hv hy).mono ?_; rintro e w' ⟨tv, rfl, hr, hb⟩)
      go_ret2
      exact ⟨_, rfl, nil_ints _, hb⟩
    | true =>
      rw [ql_yes hy, qe_yes hy]
      have hg' := hg hy rfl
      have HG := Lib.hid hg'
      clear hg hg'
      go_enter Try.func65, Try.ntmps65
      go_wp2_with (first | (go_at_call 76; refine (newTide_yes _ _ _ hv hy).mono ?_; rintro e w1 ⟨tv, rfl, hr, hb⟩) | (go_at_fn g; refine (HG.out _ _ hr hb).mono ?_; rintro e w2 ⟨ov, rfl, ho, hb2⟩))
      go_ret2
      exact ⟨_, rfl, ho, below_trans hb hb2⟩

set_option maxHeartbeats 400000 in
theorem tOnce_any (v : Value) (t : List (List Int)) (w : World) (hv : RowsAt w v t) :
    Calls Try.prog 27 #[v] w (GivesLE (ql t true (sps t (bt (spd t) (rnd t)))) (qe t true) w) := by
  have HA := askedInts_any v t true 66 #[] (sps t (bt (spd t) (rnd t))) _ hv (enters_of Try.func66 (by kernel_rfl) rfl)
    (fun hy _ W tv hr hb => once_any tv t W hr ((vld_iff t).1 hy))
  have H := Lib.hid HA
  clear HA hv
  go_enter Try.func27, Try.ntmps27
  go_wp2_with (go_at_call 65; refine H.out.mono ?_; rintro e w1 ⟨ov, rfl, ho, hb1⟩)
  go_ret2
  exact ⟨_, rfl, ho, hb1⟩

/-! ### The reference -/

set_option maxHeartbeats 400000 in
theorem speeds_any (v : Value) (t : List (List Int)) (n : Nat) (w : World) (hv : RowsAt w v t) (ht : Vld t) (hn : n ≤ 1000000) :
    Calls Try.prog 75 #[v, .int .i64 n] w (GivesL (sps t n) w) := by
  obtain ⟨i0, hi0, hz0, hz1, hz2⟩ := info_parts Try.infoInt
  go_enter Try.func75, Try.ntmps75
  go_wp2_with (at_make; refine wpList_make_full _ rfl _ _ 34 rfl w.heap.size 3 i0 (.int .i64 0) 1 Try.underlying34 hi0 hz0 hz1 .i64 .i64 _ _ n rfl rfl rfl rfl (by rw [hz2]; omega) (by unfold maxLen; omega) (Nat.le_refl _) ?_; intro w1 hown1 hgrow1)
  have hb1 : Below w.heap.size w w1 := (Below.refl _ _).grown hgrow1 (Nat.le_refl _) (fun k e => by cases e)
  generalize (madeCells (Value.int .i64 0).cells (n * 1)).toList = ys at hown1
  clear hgrow1
  go_loopw [11] (fun i wr => ∃ (k : Nat) (xs : List Value), k ≤ n ∧ i = .int .i64 k ∧ wr.ownsRow w.heap.size 3 1 (.slice (some ⟨w.heap.size, 0, none⟩) n n) n xs ∧ (∀ j, j < k → xs.getD j undef = .int .i64 (spd t j)) ∧ Below w.heap.size w wr)
    (fun i _ => n - (intOf i).toNat)
  case atStart => exact ⟨0, _, Nat.zero_le _, rfl, hown1, fun j hj => by omega, hb1⟩
  case round =>
    obtain ⟨k, xs, hk, rfl, hown, hall, hbel⟩ := hrel
    have A := Lib.hid hall
    clear hall hb1 hown1
    by_cases hlt : k < n
    · have hvr := hv.below hbel
      have hxl := hown.1
      have hcell : wr.cell? ⟨w.heap.size, k, none⟩ = some (xs.getD k undef) := by
        rw [hown.cellAt k (by omega), List.getD_eq_getElem?_getD, List.getElem?_eq_getElem (by omega)]; rfl
      have hfr := hown.frozenAt k
      obtain ⟨st1, st2⟩ := hown.stored k (.int .i64 (spd t k))
      have XL := Lib.hid hxl
      have S1 := Lib.hid st1
      have S2 := Lib.hid st2
      generalize xs.getD k undef = old at hcell
      clear hv hxl st1 st2
      go_wp2_with (go_at_call 53; refine (rspeed_any _ _ _ _ hvr ht).mono ?_; rintro e w' ⟨rfl, rfl⟩)
      go_roundw
      case rel => exact ⟨k + 1, xs.set k (.int .i64 (spd t k)), by omega, by go_num, S1.out, fun j hj => by
        have hxl := XL.out
        by_cases e : j = k
        · subst e; rw [List.getD_eq_getElem?_getD, List.getElem?_set_self (by omega)]; rfl
        · rw [List.getD_eq_getElem?_getD, List.getElem?_set_ne (by omega), ← List.getD_eq_getElem?_getD]; exact A.out j (by omega), hbel.setCell (Nat.le_refl _) _⟩
      case measure => simp [intOf]; omega
    · have e : k = n := by omega
      subst e
      go_wp2
      go_ret
      have hxs : xs = (sps t k).map (Value.int .i64) := by
        have hxl := hown.1
        apply List.ext_getElem (by simp [sps_length]; omega)
        intro j h1 h2
        have := A.out j (by simp [sps_length] at h2; omega)
        rw [List.getD_eq_getElem?_getD, List.getElem?_eq_getElem h1] at this
        simp at this
        rw [this]
        simp [sps]
      refine ⟨_, rfl, own_ints (e := 3) (base := w.heap.size) ?_ (by rw [sps_length]; omega), hbel⟩
      rw [sps_length, ← hxs]
      exact hown

end Go.Proofs.Ytflhpnhehaokpaa

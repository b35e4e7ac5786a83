/- Contracts: Measure and the sanity check; Two of both for every input. -/
import Derived.Test.YtikcpfpeoofppaaG
namespace Go.Proofs.Ytikcpfpeoofppaa
open Go.RowKit

def mV (t : List Int) : Int := if tvl t then (gcl t : Int) else 0
def mE (t : List Int) : Int := if tvl t then 0 else 40

set_option maxHeartbeats 1000000 in
theorem tMeasure_any (v : Value) (t : List Int) (w : World) (hv : IntsAt w v t) :
    Calls Try.prog 26 #[v] w fun e w' => e = .returned (.tuple #[.int .i64 (mV t), .int .i64 (mE t)]) ∧ Below w.heap.size w w' := by
  unfold mV mE
  cases hy : tvl t with
  | false =>
    have Y := Lib.hid hy
    clear hy
    go_enter Try.func26, Try.ntmps26
    go_wp2_with fail
    refine (valid_any _ _ _ hv).mono ?_
    rintro e w' ⟨rfl, rfl⟩
    rw [Y.out]
    go_wp2
    go_ret2
    exact ⟨rfl, Below.refl _ _⟩
  | true =>
    have ht := (tvl_iff t).1 hy
    have Y := Lib.hid hy
    clear hy
    go_enter Try.func26, Try.ntmps26
    go_wp2_with fail
    refine (valid_any _ _ _ hv).mono ?_
    rintro e w' ⟨rfl, rfl⟩
    rw [Y.out]
    go_wp2_with fail
    refine (measure_any _ _ _ hv ht).mono ?_
    rintro e w1 ⟨rfl, hb1⟩
    go_wp2
    go_ret2
    exact ⟨rfl, hb1⟩

theorem sane_v : mV [4, 6] = 2 ∧ mE [4, 6] = 0 := by decide

set_option maxHeartbeats 1000000 in
theorem sane_any (w : World) :
    Calls Try.prog 20 #[] w fun e w' => e = .returned (.bool true) ∧ Below w.heap.size w w' := by
  have hI := Lib.hid (ints_two w 4 6 3)
  have hal : Below w.heap.size w (w.alloc (.cells #[.int .i64 4, .int .i64 6] 3)) := (Below.refl _ w).alloc (Nat.le_refl _) _
  go_enter Try.func20, Try.ntmps20
  go_wp2_with fail
  refine (tMeasure_any _ _ _ hI.out).mono ?_
  rintro e w1 ⟨rfl, hb1⟩
  rw [sane_v.1, sane_v.2]
  go_wp2
  go_ret
  exact ⟨rfl, below_trans hal hb1⟩

def twoE (a b n : Int) : Int := if tvl [a, b] then (if betw 0 n b then (if n % (gcl [a, b] : Int) = 0 then 0 else 5) else 2) else 40
def twoL (a b n : Int) : List Deed := if tvl [a, b] && betw 0 n b && (n % (gcl [a, b] : Int) == 0) then (twoT a.toNat b.toNat n.toNat).map dZ else []


set_option maxRecDepth 100000 in
set_option maxHeartbeats 2000000 in
theorem tTwo_any (a b n : Int) (w : World) : Calls Try.prog 17 #[.int .i64 a, .int .i64 b, .int .i64 n] w (GivesDE (twoL a b n) (twoE a b n) w) := by
  have hI := Lib.hid (ints_two w a b 3)
  have hal : Below w.heap.size w (w.alloc (.cells #[.int .i64 a, .int .i64 b] 3)) := (Below.refl _ w).alloc (Nat.le_refl _) _
  unfold twoL twoE
  cases hy : tvl [a, b] with
  | false =>
    have Y := Lib.hid hy
    clear hy
    go_enter Try.func17, Try.ntmps17
    go_wp2_with fail
    refine (valid_any _ _ _ hI.out).mono ?_
    rintro e w' ⟨rfl, rfl⟩
    rw [Y.out]
    go_wp2
    go_ret2
    exact ⟨_, rfl, deeds_nil _, hal⟩
  | true =>
    have ht := (tvl_iff _).1 hy
    have Y := Lib.hid hy
    cases hb : betw 0 n b with
    | false =>
      have B := Lib.hid hb
      clear hy hb
      go_enter Try.func17, Try.ntmps17
      go_wp2_with fail
      refine (valid_any _ _ _ hI.out).mono ?_
      rintro e w' ⟨rfl, rfl⟩
      rw [Y.out]
      go_wp2_with fail
      refine (between_any _ _ _ _).mono ?_
      rintro e w' ⟨rfl, rfl⟩
      rw [B.out]
      go_wp2
      go_ret2
      exact ⟨_, rfl, deeds_nil _, hal⟩
    | true =>
      have B := Lib.hid hb
      have hbb := (betw_iff _ _ _).1 hb
      have ha' := ht.holds a (by simp)
      have hb' := ht.holds b (by simp)
      obtain ⟨n', rfl⟩ := Int.eq_ofNat_of_zero_le hbb.1
      obtain ⟨a', rfl⟩ := Int.eq_ofNat_of_zero_le (show 0 ≤ a by omega)
      obtain ⟨b', rfl⟩ := Int.eq_ofNat_of_zero_le (show 0 ≤ b by omega)
      by_cases hd : n' % gcl [(a' : Int), (b' : Int)] = 0
      · have e : ((n' : Int) % (gcl [(a' : Int), (b' : Int)] : Int)) = 0 := by rw [← Int.natCast_emod, hd]; rfl
        rw [e]
        exact tTwo_main a' b' n' w (by omega) (by omega) (by omega) hd
      · have hg := ht.gcl_pos
        have e0 : ((n' : Int) % (gcl [(a' : Int), (b' : Int)] : Int)) ≠ 0 := by rw [← Int.natCast_emod]; omega
        have e1 : ((n' : Int) % (gcl [(a' : Int), (b' : Int)] : Int) == 0) = false := by rw [beq_eq_false_iff_ne]; exact e0
        have e2 : ((n' : Int) % (gcl [(a' : Int), (b' : Int)] : Int) != 0) = true := by rw [bne_iff_ne]; exact e0
        rw [if_neg e0, e1]
        clear e0 e1 hd hy hb
        have HM := Lib.hid (measure_any _ _ _ hI.out ht)
        generalize gcl [(a' : Int), (b' : Int)] = G at *
        go_enter Try.func17, Try.ntmps17
        go_wp2_with fail
        refine (valid_any _ _ _ hI.out).mono ?_
        rintro e w' ⟨rfl, rfl⟩
        rw [Y.out]
        go_wp2_with fail
        refine (between_any _ _ _ _).mono ?_
        rintro e w' ⟨rfl, rfl⟩
        rw [B.out]
        go_wp2_with fail
        refine HM.out.mono ?_
        rintro e w1 ⟨rfl, hb1⟩
        skip
        go_wp2
        go_ret2
        exact ⟨_, rfl, deeds_nil _, below_trans hal hb1⟩
set_option maxRecDepth 100000 in
set_option maxHeartbeats 2000000 in
theorem rTwo_any (a b n : Int) (w : World) : Calls Try.prog 18 #[.int .i64 a, .int .i64 b, .int .i64 n] w (GivesDE (twoL a b n) (twoE a b n) w) := by
  have hI := Lib.hid (ints_two w a b 3)
  have hal : Below w.heap.size w (w.alloc (.cells #[.int .i64 a, .int .i64 b] 3)) := (Below.refl _ w).alloc (Nat.le_refl _) _
  unfold twoL twoE
  cases hy : tvl [a, b] with
  | false =>
    have Y := Lib.hid hy
    clear hy
    go_enter Try.func18, Try.ntmps18
    go_wp2_with fail
    refine (rValid_any _ _ _ hI.out).mono ?_
    rintro e w' ⟨rfl, rfl⟩
    rw [Y.out]
    go_wp2
    go_ret2
    exact ⟨_, rfl, deeds_nil _, hal⟩
  | true =>
    have ht := (tvl_iff _).1 hy
    have Y := Lib.hid hy
    cases hb : betw 0 n b with
    | false =>
      have B := Lib.hid hb
      clear hy hb
      go_enter Try.func18, Try.ntmps18
      go_wp2_with fail
      refine (rValid_any _ _ _ hI.out).mono ?_
      rintro e w' ⟨rfl, rfl⟩
      rw [Y.out]
      go_wp2_with fail
      refine (within_any _ _ _ _).mono ?_
      rintro e w' ⟨rfl, rfl⟩
      rw [B.out]
      go_wp2
      go_ret2
      exact ⟨_, rfl, deeds_nil _, hal⟩
    | true =>
      have B := Lib.hid hb
      have hbb := (betw_iff _ _ _).1 hb
      have ha' := ht.holds a (by simp)
      have hb' := ht.holds b (by simp)
      obtain ⟨n', rfl⟩ := Int.eq_ofNat_of_zero_le hbb.1
      obtain ⟨a', rfl⟩ := Int.eq_ofNat_of_zero_le (show 0 ≤ a by omega)
      obtain ⟨b', rfl⟩ := Int.eq_ofNat_of_zero_le (show 0 ≤ b by omega)
      by_cases hd : n' % gcl [(a' : Int), (b' : Int)] = 0
      · have e : ((n' : Int) % (gcl [(a' : Int), (b' : Int)] : Int)) = 0 := by rw [← Int.natCast_emod, hd]; rfl
        rw [e]
        exact rTwo_main a' b' n' w (by omega) (by omega) (by omega) hd
      · have hg := ht.gcl_pos
        have e0 : ((n' : Int) % (gcl [(a' : Int), (b' : Int)] : Int)) ≠ 0 := by rw [← Int.natCast_emod]; omega
        have e1 : ((n' : Int) % (gcl [(a' : Int), (b' : Int)] : Int) == 0) = false := by rw [beq_eq_false_iff_ne]; exact e0
        have e2 : ((n' : Int) % (gcl [(a' : Int), (b' : Int)] : Int) != 0) = true := by rw [bne_iff_ne]; exact e0
        rw [if_neg e0, e1]
        clear e0 e1 hd hy hb
        have HM := Lib.hid (rmeasure_any _ _ _ hI.out ht)
        generalize gcl [(a' : Int), (b' : Int)] = G at *
        go_enter Try.func18, Try.ntmps18
        go_wp2_with fail
        refine (rValid_any _ _ _ hI.out).mono ?_
        rintro e w' ⟨rfl, rfl⟩
        rw [Y.out]
        go_wp2_with fail
        refine (within_any _ _ _ _).mono ?_
        rintro e w' ⟨rfl, rfl⟩
        rw [B.out]
        go_wp2_with fail
        refine HM.out.mono ?_
        rintro e w1 ⟨rfl, hb1⟩
        (subst hb1; have hb1 := Below.refl (w.alloc (.cells #[.int .i64 (a' : Int), .int .i64 (b' : Int)] 3)).heap.size (w.alloc (.cells #[.int .i64 (a' : Int), .int .i64 (b' : Int)] 3)))
        go_wp2
        go_ret2
        exact ⟨_, rfl, deeds_nil _, below_trans hal hb1⟩

set_option maxHeartbeats 1000000 in
theorem TankTwo_walk (a b n : Int) (w : World) :
    Calls Try.prog 3 #[.int .i64 a, .int .i64 b, .int .i64 n] w fun e w' => e = .returned (.bool true) ∧ Below w.heap.size w w' := by
  go_enter Try.func3, Try.ntmps3
  go_wp2_with fail
  refine (tTwo_any _ _ _ _).mono ?_
  rintro e w1 ⟨ov, rfl, ho, hb1⟩
  go_wp2_with fail
  refine (rTwo_any _ _ _ _).mono ?_
  rintro e w2 ⟨ox, rfl, hx, hb2⟩
  have ho2 := ho.below hb2
  have hb3 := below_trans hb1 hb2
  clear ho hb1 hb2
  go_wp2_with fail
  refine (sameDeeds_any _ _ _ _ _ ho2 hx).mono ?_
  rintro e w3 ⟨rfl, hb4⟩
  rw [decide_eq_true rfl]
  have hb5 := below_trans hb3 hb4
  clear ho2 hx hb3 hb4
  go_wp2_with fail
  refine (sane_any _).mono ?_
  rintro e w4 ⟨rfl, hb6⟩
  go_wp2
  go_ret
  exact ⟨rfl, below_trans hb5 hb6⟩

end Go.Proofs.Ytikcpfpeoofppaa

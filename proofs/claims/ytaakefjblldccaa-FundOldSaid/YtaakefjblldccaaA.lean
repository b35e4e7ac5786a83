/- Contracts: between, within, ratios in lowest terms. -/
import Derived.Test.YtaakefjblldccaaData
import Derived.Test.YtaakefjblldccaaProg
import Derived.KernelRfl
import Derived.BigQuiet
import Derived.Deep.QuietTactic
import Derived.Deep.RegionWith
import Derived.StillTailTactics
namespace Go.Proofs.Ytaakefjblldccaa
open Go.RowKit

theorem ret_b {a b : Bool} (h : a = b) : Ending.returned (.bool a) = .returned (.bool b) := by rw [h]
theorem ret_i {a b : Int} (h : a = b) : Ending.returned (.int .i64 a) = .returned (.int .i64 b) := by rw [h]

/-- The test a ≤ b ≤ c. -/
def betw (a b c : Int) : Bool := decide (a ≤ b) && decide (b ≤ c)
theorem betw_iff (a b c : Int) : betw a b c = true ↔ a ≤ b ∧ b ≤ c := by simp [betw]
theorem betw_no {a b c : Int} (h : ¬ (a ≤ b ∧ b ≤ c)) : betw a b c = false := by
  cases hb : betw a b c with
  | false => rfl
  | true => exact absurd ((betw_iff a b c).1 hb) h

set_option maxHeartbeats 400000 in
theorem between_any (a b c : Int) (w : World) :
    Calls Try.prog 52 #[.int .i64 a, .int .i64 b, .int .i64 c] w fun e w' => e = .returned (.bool (betw a b c)) ∧ w = w' := by
  unfold betw
  by_cases h1 : a ≤ b
  · by_cases h2 : b ≤ c
    · go_enter Try.func52, Try.ntmps52
      go_wp2
      go_ret
      exact ⟨by simp [h1, h2], rfl⟩
    · go_enter Try.func52, Try.ntmps52
      go_wp2
      go_ret
      exact ⟨by simp [h2], rfl⟩
  · go_enter Try.func52, Try.ntmps52
    go_wp2
    go_ret
    exact ⟨by rw [decide_eq_false (show ¬ a ≤ b by omega)]; rfl, rfl⟩

set_option maxHeartbeats 400000 in
theorem within_any (a b c : Int) (w : World) :
    Calls Try.prog 55 #[.int .i64 a, .int .i64 b, .int .i64 c] w fun e w' => e = .returned (.bool (betw a b c)) ∧ w = w' := by
  unfold betw
  by_cases h1 : a ≤ b
  · by_cases h2 : b ≤ c
    · go_enter Try.func55, Try.ntmps55
      go_wp2
      go_ret
      exact ⟨by simp [h1, h2], rfl⟩
    · go_enter Try.func55, Try.ntmps55
      go_wp2
      go_ret
      exact ⟨by simp [h2], rfl⟩
  · go_enter Try.func55, Try.ntmps55
    go_wp2
    go_ret
    exact ⟨by rw [decide_eq_false (show ¬ a ≤ b by omega)]; rfl, rfl⟩

/-- The two numbers of a ratio in lowest terms. -/
def rn (n d : Int) : Int := n / (Int.gcd n d : Nat)
def rd (n d : Int) : Int := d / (Int.gcd n d : Nat)
def ratV (n d : Int) : Value := .agg #[.int .i64 (rn n d), .int .i64 (rd n d)]

theorem gcd_step (x y : Nat) : Nat.gcd y (x % y) = Nat.gcd x y := by
  rw [Nat.gcd_comm x y, Nat.gcd_rec y x, Nat.gcd_comm]
theorem emod_cast (p q : Nat) : ((p : Int) % (q : Int)) = ((p % q : Nat) : Int) := (Int.natCast_emod p q).symm

theorem big_nat {n B : Int} (h1 : -B ≤ n) (h2 : n ≤ B) : (n.natAbs : Int) ≤ B := by omega

theorem ratV_pos (k m : Nat) : Ending.returned (.agg #[.int .i64 ((k : Int) / ((k.gcd m : Nat) : Int)), .int .i64 ((m : Int) / ((k.gcd m : Nat) : Int))]) = .returned (ratV k m) := rfl
theorem ratV_neg (k m : Nat) : Ending.returned (.agg #[.int .i64 (-((k : Int) / ((k.gcd m : Nat) : Int))), .int .i64 ((m : Int) / ((k.gcd m : Nat) : Int))]) = .returned (ratV (-(k : Int)) m) := by
  have h : (k.gcd m : Int) ∣ (k : Int) := Int.ofNat_dvd.2 (Nat.gcd_dvd_left k m)
  have e : Int.gcd (-(k : Int)) m = k.gcd m := by rw [Int.neg_gcd]; rfl
  unfold ratV rn rd
  rw [e, Int.neg_ediv_of_dvd h]

set_option maxHeartbeats 400000 in
theorem ratio_pos (k m : Nat) (w : World) (hk : k ≤ 4000000000000000000) (hm1 : 1 ≤ m) (hm2 : m ≤ 4000000000000000000) :
    Calls Try.prog 53 #[.int .i64 k, .int .i64 m] w fun e w' => e = .returned (ratV k m) ∧ Below w.heap.size w w' := by
  go_enter Try.func53, Try.ntmps53
  go_wp2
  go_loopw [5, 6] (fun x y wr => ∃ p q : Nat, x = .int .i64 p ∧ y = .int .i64 q ∧ 1 ≤ p + q ∧ p ≤ 4000000000000000000 ∧ q ≤ 4000000000000000000 ∧ Hid (Nat.gcd p q = Nat.gcd k m) ∧ Below (w.heap.size + 1) (w.alloc (.cells #[.int .i64 0, .int .i64 0] 23)) wr) (fun _ y _ => (intOf y).toNat)
  case atStart => exact ⟨k, m, by go_num, rfl, by omega, by omega, by omega, rfl, Below.refl _ _⟩
  case round =>
    obtain ⟨p, q, rfl, rfl, hpq, hp2, hq2, G, hbel⟩ := hrel
    by_cases hq : 0 < q
    · have hm := Nat.mod_lt p hq
      have hne : ((q : Int) != 0) = true := by rw [bne_iff_ne]; omega
      have hne2 : ((q : Int) == 0) = false := beq_eq_false_iff_ne.2 (by omega)
      go_wp2
      go_region
      all_goals go_wp2
      all_goals go_roundw
      case rel => exact ⟨q, p % q, rfl, by rw [emod_cast], by omega, by omega, by omega, (gcd_step p q).trans G.out, hbel.drew⟩
      case measure => rw [emod_cast]; simp only [intOf]; omega
    · have e : q = 0 := by omega
      subst e
      have G' := G.out
      rw [Nat.gcd_zero_right] at G'
      clear G
      have GH := Lib.hid G'
      clear G'
      have c0 : wr.cell? ⟨w.heap.size, 0, none⟩ = some (.int .i64 0) := (hbel.cell (p := ⟨w.heap.size, 0, none⟩) (Nat.lt_succ_self _)).trans (by simp)
      have c1 : wr.cell? ⟨w.heap.size, 1, none⟩ = some (.int .i64 0) := (hbel.cell (p := ⟨w.heap.size, 1, none⟩) (Nat.lt_succ_self _)).trans (by simp)
      have f0 : wr.frozen? ⟨w.heap.size, 0, none⟩ = false := (hbel.frozen (p := ⟨w.heap.size, 0, none⟩) (Nat.lt_succ_self _)).trans (by simp)
      have f1 : wr.frozen? ⟨w.heap.size, 1, none⟩ = false := (hbel.frozen (p := ⟨w.heap.size, 1, none⟩) (Nat.lt_succ_self _)).trans (by simp)
      have hne : ((p : Int) == 0) = false := beq_eq_false_iff_ne.2 (by omega)
      have hd1 := IntWalk.tdiv_le k p (by omega) (by omega)
      have hd2 := IntWalk.tdiv_le m p (by omega) (by omega)
      go_wp2
      go_region
      all_goals go_wp2
      refine bodyPost_ret (v := .agg #[.int .i64 ((k : Int) / (p : Int)), .int .i64 ((m : Int) / (p : Int))]) (by simp [results, Try.results53, go_sem, c0, c1]) rfl ⟨?_, ?_⟩
      · have := GH.out
        subst this
        exact ratV_pos k m
      · exact ((((Below.refl _ w).alloc (Nat.le_refl _) _).trans (hbel.mono (Nat.le_succ _))).setCell (Nat.le_refl _) _).setCell (Nat.le_refl _) _ |>.drew

set_option maxHeartbeats 400000 in
theorem ratio_neg (k m : Nat) (w : World) (hk1 : 1 ≤ k) (hk : k ≤ 4000000000000000000) (hm1 : 1 ≤ m) (hm2 : m ≤ 4000000000000000000) :
    Calls Try.prog 53 #[.int .i64 (-(k : Int)), .int .i64 m] w fun e w' => e = .returned (ratV (-(k : Int)) m) ∧ Below w.heap.size w w' := by
  go_enter Try.func53, Try.ntmps53
  go_wp2
  go_loopw [5, 6] (fun x y wr => ∃ p q : Nat, x = .int .i64 p ∧ y = .int .i64 q ∧ 1 ≤ p + q ∧ p ≤ 4000000000000000000 ∧ q ≤ 4000000000000000000 ∧ Hid (Nat.gcd p q = Nat.gcd k m) ∧ Below (w.heap.size + 1) (w.alloc (.cells #[.int .i64 0, .int .i64 0] 23)) wr) (fun _ y _ => (intOf y).toNat)
  case atStart => exact ⟨k, m, by go_num, rfl, by omega, by omega, by omega, rfl, Below.refl _ _⟩
  case round =>
    obtain ⟨p, q, rfl, rfl, hpq, hp2, hq2, G, hbel⟩ := hrel
    by_cases hq : 0 < q
    · have hm := Nat.mod_lt p hq
      have hne : ((q : Int) != 0) = true := by rw [bne_iff_ne]; omega
      have hne2 : ((q : Int) == 0) = false := beq_eq_false_iff_ne.2 (by omega)
      go_wp2
      go_region
      all_goals go_wp2
      all_goals go_roundw
      case rel => exact ⟨q, p % q, rfl, by rw [emod_cast], by omega, by omega, by omega, (gcd_step p q).trans G.out, hbel.drew⟩
      case measure => rw [emod_cast]; simp only [intOf]; omega
    · have e : q = 0 := by omega
      subst e
      have G' := G.out
      rw [Nat.gcd_zero_right] at G'
      clear G
      have GH := Lib.hid G'
      clear G'
      have c0 : wr.cell? ⟨w.heap.size, 0, none⟩ = some (.int .i64 0) := (hbel.cell (p := ⟨w.heap.size, 0, none⟩) (Nat.lt_succ_self _)).trans (by simp)
      have c1 : wr.cell? ⟨w.heap.size, 1, none⟩ = some (.int .i64 0) := (hbel.cell (p := ⟨w.heap.size, 1, none⟩) (Nat.lt_succ_self _)).trans (by simp)
      have f0 : wr.frozen? ⟨w.heap.size, 0, none⟩ = false := (hbel.frozen (p := ⟨w.heap.size, 0, none⟩) (Nat.lt_succ_self _)).trans (by simp)
      have f1 : wr.frozen? ⟨w.heap.size, 1, none⟩ = false := (hbel.frozen (p := ⟨w.heap.size, 1, none⟩) (Nat.lt_succ_self _)).trans (by simp)
      have hne : ((p : Int) == 0) = false := beq_eq_false_iff_ne.2 (by omega)
      have hd1 := IntWalk.tdiv_le k p (by omega) (by omega)
      have hd2 := IntWalk.tdiv_le m p (by omega) (by omega)
      go_wp2
      go_region
      all_goals go_wp2
      refine bodyPost_ret (v := .agg #[.int .i64 (-((k : Int) / (p : Int))), .int .i64 ((m : Int) / (p : Int))]) (by simp [results, Try.results53, go_sem, c0, c1]) rfl ⟨?_, ?_⟩
      · have := GH.out
        subst this
        exact ratV_neg k m
      · exact ((((Below.refl _ w).alloc (Nat.le_refl _) _).trans (hbel.mono (Nat.le_succ _))).setCell (Nat.le_refl _) _).setCell (Nat.le_refl _) _ |>.drew

theorem ratio_any (n d : Int) (w : World) (hn1 : -4000000000000000000 ≤ n) (hn2 : n ≤ 4000000000000000000) (hd1 : 1 ≤ d) (hd2 : d ≤ 4000000000000000000) :
    Calls Try.prog 53 #[.int .i64 n, .int .i64 d] w fun e w' => e = .returned (ratV n d) ∧ Below w.heap.size w w' := by
  obtain ⟨m, rfl⟩ := Int.eq_ofNat_of_zero_le (show 0 ≤ d by omega)
  by_cases h : 0 ≤ n
  · obtain ⟨k, rfl⟩ := Int.eq_ofNat_of_zero_le h
    exact ratio_pos k m w (by omega) (by omega) (by omega)
  · obtain ⟨k, hk⟩ := Int.eq_ofNat_of_zero_le (show 0 ≤ -n by omega)
    obtain rfl : n = -(k : Int) := by omega
    exact ratio_neg k m w (by omega) (by omega) (by omega) (by omega)

set_option maxHeartbeats 400000 in
theorem gcd_pos (k m : Nat) (w : World) (hk : k ≤ 4000000000000000000) (hm2 : m ≤ 4000000000000000000) :
    Calls Try.prog 90 #[.int .i64 k, .int .i64 m] w fun e w' => e = .returned (.int .i64 (k.gcd m : Nat)) ∧ Below w.heap.size w w' := by
  go_enter Try.func90, Try.ntmps90
  go_wp2
  go_loopw [0, 1] (fun x y wr => ∃ p q : Nat, x = .int .i64 p ∧ y = .int .i64 q ∧ p ≤ 4000000000000000000 ∧ q ≤ 4000000000000000000 ∧ Hid (Nat.gcd p q = Nat.gcd k m) ∧ Below w.heap.size w wr) (fun _ y _ => (intOf y).toNat)
  case atStart => exact ⟨k, m, by go_num, rfl, by omega, by omega, rfl, Below.refl _ _⟩
  case round =>
    obtain ⟨p, q, rfl, rfl, hp2, hq2, G, hbel⟩ := hrel
    by_cases hq : 0 < q
    · have hm := Nat.mod_lt p hq
      have hne : ((q : Int) != 0) = true := by rw [bne_iff_ne]; omega
      have hne2 : ((q : Int) == 0) = false := beq_eq_false_iff_ne.2 (by omega)
      go_wp2
      go_region
      all_goals go_wp2
      all_goals go_roundw
      case rel => exact ⟨q, p % q, rfl, by rw [emod_cast], by omega, by omega, (gcd_step p q).trans G.out, hbel.drew⟩
      case measure => rw [emod_cast]; simp only [intOf]; omega
    · have e : q = 0 := by omega
      subst e
      have G' := G.out
      rw [Nat.gcd_zero_right] at G'
      clear G
      have GH := Lib.hid G'
      clear G'
      go_wp2
      go_ret
      exact ⟨ret_i (by rw [GH.out]), hbel⟩

set_option maxHeartbeats 400000 in
theorem gcd_neg (k m : Nat) (w : World) (hk1 : 1 ≤ k) (hk : k ≤ 4000000000000000000) (hm2 : m ≤ 4000000000000000000) :
    Calls Try.prog 90 #[.int .i64 (-(k : Int)), .int .i64 m] w fun e w' => e = .returned (.int .i64 (k.gcd m : Nat)) ∧ Below w.heap.size w w' := by
  go_enter Try.func90, Try.ntmps90
  go_wp2
  go_loopw [0, 1] (fun x y wr => ∃ p q : Nat, x = .int .i64 p ∧ y = .int .i64 q ∧ p ≤ 4000000000000000000 ∧ q ≤ 4000000000000000000 ∧ Hid (Nat.gcd p q = Nat.gcd k m) ∧ Below w.heap.size w wr) (fun _ y _ => (intOf y).toNat)
  case atStart => exact ⟨k, m, by go_num, rfl, by omega, by omega, rfl, Below.refl _ _⟩
  case round =>
    obtain ⟨p, q, rfl, rfl, hp2, hq2, G, hbel⟩ := hrel
    by_cases hq : 0 < q
    · have hm := Nat.mod_lt p hq
      have hne : ((q : Int) != 0) = true := by rw [bne_iff_ne]; omega
      have hne2 : ((q : Int) == 0) = false := beq_eq_false_iff_ne.2 (by omega)
      go_wp2
      go_region
      all_goals go_wp2
      all_goals go_roundw
      case rel => exact ⟨q, p % q, rfl, by rw [emod_cast], by omega, by omega, (gcd_step p q).trans G.out, hbel.drew⟩
      case measure => rw [emod_cast]; simp only [intOf]; omega
    · have e : q = 0 := by omega
      subst e
      have G' := G.out
      rw [Nat.gcd_zero_right] at G'
      clear G
      have GH := Lib.hid G'
      clear G'
      go_wp2
      go_ret
      exact ⟨ret_i (by rw [GH.out]), hbel⟩

set_option maxHeartbeats 400000 in
theorem rRatio_pos (k m : Nat) (w : World) (hk : k ≤ 4000000000000000000) (hm1 : 1 ≤ m) (hm2 : m ≤ 4000000000000000000) :
    Calls Try.prog 56 #[.int .i64 k, .int .i64 m] w fun e w' => e = .returned (ratV k m) ∧ Below w.heap.size w w' := by
  go_enter Try.func56, Try.ntmps56
  have hg0 : 0 < k.gcd m := Nat.gcd_pos_of_pos_right _ hm1
  have hg1 : k.gcd m ≤ m := Nat.gcd_le_right _ hm1
  go_wp2_with (go_at_call 90; refine (gcd_pos k m _ hk hm2).mono ?_; rintro e wr ⟨rfl, hbel⟩; rw [World.size_alloc] at hbel)
  have c0 : wr.cell? ⟨w.heap.size, 0, none⟩ = some (.int .i64 0) := (hbel.cell (p := ⟨w.heap.size, 0, none⟩) (Nat.lt_succ_self _)).trans (by simp)
  have c1 : wr.cell? ⟨w.heap.size, 1, none⟩ = some (.int .i64 0) := (hbel.cell (p := ⟨w.heap.size, 1, none⟩) (Nat.lt_succ_self _)).trans (by simp)
  have f0 : wr.frozen? ⟨w.heap.size, 0, none⟩ = false := (hbel.frozen (p := ⟨w.heap.size, 0, none⟩) (Nat.lt_succ_self _)).trans (by simp)
  have f1 : wr.frozen? ⟨w.heap.size, 1, none⟩ = false := (hbel.frozen (p := ⟨w.heap.size, 1, none⟩) (Nat.lt_succ_self _)).trans (by simp)
  generalize hgg : k.gcd m = p at *
  have GH := Lib.hid hgg
  clear hgg
  have hne : ((p : Int) == 0) = false := beq_eq_false_iff_ne.2 (by omega)
  have hd1 := IntWalk.tdiv_le k p (by omega) (by omega)
  have hd2 := IntWalk.tdiv_le m p (by omega) (by omega)
  go_region
  all_goals go_wp2
  refine bodyPost_ret (v := .agg #[.int .i64 ((k : Int) / (p : Int)), .int .i64 ((m : Int) / (p : Int))]) (by simp [results, Try.results56, go_sem, c0, c1]) rfl ⟨?_, ?_⟩
  · have := GH.out
    subst this
    exact ratV_pos k m
  · exact ((((Below.refl _ w).alloc (Nat.le_refl _) _).trans (hbel.mono (Nat.le_succ _))).setCell (Nat.le_refl _) _).setCell (Nat.le_refl _) _ |>.drew

set_option maxHeartbeats 400000 in
theorem rRatio_neg (k m : Nat) (w : World) (hk1 : 1 ≤ k) (hk : k ≤ 4000000000000000000) (hm1 : 1 ≤ m) (hm2 : m ≤ 4000000000000000000) :
    Calls Try.prog 56 #[.int .i64 (-(k : Int)), .int .i64 m] w fun e w' => e = .returned (ratV (-(k : Int)) m) ∧ Below w.heap.size w w' := by
  go_enter Try.func56, Try.ntmps56
  have hg0 : 0 < k.gcd m := Nat.gcd_pos_of_pos_right _ hm1
  have hg1 : k.gcd m ≤ m := Nat.gcd_le_right _ hm1
  go_wp2_with (go_at_call 90; refine (gcd_neg k m _ hk1 hk hm2).mono ?_; rintro e wr ⟨rfl, hbel⟩; rw [World.size_alloc] at hbel)
  have c0 : wr.cell? ⟨w.heap.size, 0, none⟩ = some (.int .i64 0) := (hbel.cell (p := ⟨w.heap.size, 0, none⟩) (Nat.lt_succ_self _)).trans (by simp)
  have c1 : wr.cell? ⟨w.heap.size, 1, none⟩ = some (.int .i64 0) := (hbel.cell (p := ⟨w.heap.size, 1, none⟩) (Nat.lt_succ_self _)).trans (by simp)
  have f0 : wr.frozen? ⟨w.heap.size, 0, none⟩ = false := (hbel.frozen (p := ⟨w.heap.size, 0, none⟩) (Nat.lt_succ_self _)).trans (by simp)
  have f1 : wr.frozen? ⟨w.heap.size, 1, none⟩ = false := (hbel.frozen (p := ⟨w.heap.size, 1, none⟩) (Nat.lt_succ_self _)).trans (by simp)
  generalize hgg : k.gcd m = p at *
  have GH := Lib.hid hgg
  clear hgg
  have hne : ((p : Int) == 0) = false := beq_eq_false_iff_ne.2 (by omega)
  have hd1 := IntWalk.tdiv_le k p (by omega) (by omega)
  have hd2 := IntWalk.tdiv_le m p (by omega) (by omega)
  go_region
  all_goals go_wp2
  refine bodyPost_ret (v := .agg #[.int .i64 (-((k : Int) / (p : Int))), .int .i64 ((m : Int) / (p : Int))]) (by simp [results, Try.results56, go_sem, c0, c1]) rfl ⟨?_, ?_⟩
  · have := GH.out
    subst this
    exact ratV_neg k m
  · exact ((((Below.refl _ w).alloc (Nat.le_refl _) _).trans (hbel.mono (Nat.le_succ _))).setCell (Nat.le_refl _) _).setCell (Nat.le_refl _) _ |>.drew

theorem rRatio_any (n d : Int) (w : World) (hn1 : -4000000000000000000 ≤ n) (hn2 : n ≤ 4000000000000000000) (hd1 : 1 ≤ d) (hd2 : d ≤ 4000000000000000000) :
    Calls Try.prog 56 #[.int .i64 n, .int .i64 d] w fun e w' => e = .returned (ratV n d) ∧ Below w.heap.size w w' := by
  obtain ⟨m, rfl⟩ := Int.eq_ofNat_of_zero_le (show 0 ≤ d by omega)
  by_cases h : 0 ≤ n
  · obtain ⟨k, rfl⟩ := Int.eq_ofNat_of_zero_le h
    exact rRatio_pos k m w (by omega) (by omega) (by omega)
  · obtain ⟨k, hk⟩ := Int.eq_ofNat_of_zero_le (show 0 ≤ -n by omega)
    obtain rfl : n = -(k : Int) := by omega
    exact rRatio_neg k m w (by omega) (by omega) (by omega) (by omega)

end Go.Proofs.Ytaakefjblldccaa

/- The round (out of the tide's texts). -/
import Derived.Test.YtbgflacfemeblaaDoorA
import Derived.Deep.RegionWith
namespace Go.Proofs.YtbgflacfemeblaaDoor
open Go.RowKit

theorem lcm_bound {a b : Nat} (ha2 : a ≤ 27720) (hb2 : b ≤ 12) : a / Nat.gcd a b * b = Nat.lcm a b ∧ a / Nat.gcd a b * b ≤ 332640 := by
  have h1 : a / Nat.gcd a b * b = Nat.lcm a b := by
    rw [Nat.lcm, Nat.mul_comm a b, Nat.mul_div_assoc _ (Nat.gcd_dvd_left a b), Nat.mul_comm]
  refine ⟨h1, ?_⟩
  have h2 : a / Nat.gcd a b ≤ 27720 := Nat.le_trans (Nat.div_le_self _ _) ha2
  exact Nat.le_trans (Nat.mul_le_mul h2 hb2) (by decide)

theorem gcd_step (x y : Nat) : Nat.gcd y (x % y) = Nat.gcd x y := by
  rw [Nat.gcd_comm x y, Nat.gcd_rec y x, Nat.gcd_comm]

theorem emod_cast (p q : Nat) : ((p : Int) % (q : Int)) = ((p % q : Nat) : Int) := (Int.natCast_emod p q).symm

theorem ediv_cast (p q : Nat) : ((p : Int) / (q : Int)) = ((p / q : Nat) : Int) := (Int.natCast_ediv p q).symm

set_option maxHeartbeats 400000 in
theorem common_any (a b : Nat) (w : World) (ha : 1 ≤ a) (hb : 1 ≤ b) (ha2 : a ≤ 27720) (hb2 : b ≤ 12) :
    Calls Tryd.prog 32 #[.int .i64 a, .int .i64 b] w fun e w' => e = .returned (.int .i64 (Nat.lcm a b : Nat)) ∧ Below w.heap.size w w' := by
  have L := lcm_bound ha2 hb2
  have L1 := Lib.hid L.1
  have L2 := Lib.hid L.2
  clear L
  go_enter Tryd.func32, Tryd.ntmps32
  go_wp2
  go_loopw [5, 6] (fun x y wr => ∃ p q : Nat, x = .int .i64 p ∧ y = .int .i64 q ∧ 1 ≤ p ∧ p ≤ 27720 ∧ q ≤ 27720 ∧ Hid (Nat.gcd p q = Nat.gcd a b) ∧ Below w.heap.size w wr) (fun _ y _ => (intOf y).toNat)
  case atStart => exact ⟨a, b, rfl, rfl, ha, ha2, by omega, rfl, Below.refl _ _⟩
  case round =>
    obtain ⟨p, q, rfl, rfl, hp, hp2, hq2, G, hbel⟩ := hrel
    by_cases hq : 0 < q
    · have hm := Nat.mod_lt p hq
      go_wp2
      go_region
      all_goals go_wp2
      all_goals go_roundw
      case rel => exact ⟨q, p % q, rfl, by rw [emod_cast], by omega, by omega, by omega, (gcd_step p q).trans G.out, hbel.drew⟩
      case measure => rw [emod_cast]; simp only [intOf]; omega
    · have e : q = 0 := by omega
      subst e
      have G' := G.out
      rw [Nat.gcd_zero_right] at G'
      clear G
      have GH := Lib.hid G'
      clear G'
      go_wp2
      go_ret
      refine ⟨ret_i ?_, hbel⟩
      have h2 := L2.out
      have h3 := Nat.div_le_self a (a.gcd b)
      have h4 : (-9223372036854775808 : Int) ≤ ((a / a.gcd b : Nat) : Int) ∧ ((a / a.gcd b : Nat) : Int) ≤ 9223372036854775807 := by
        generalize a / a.gcd b = z at *
        omega
      rw [GH.out, ediv_cast, IntWalk.wrap64_in ((a / a.gcd b : Nat) : Int) h4, ← Int.natCast_mul, L1.out]
      apply IntWalk.wrap64_in
      rw [L1.out] at h2
      omega

/-- The round of the first waves. -/
def rndTo (t : List (List Int)) (k : Nat) : Nat := rnd (t.take k)

theorem rndTo_succ (t : List (List Int)) (k : Nat) (hk : k < t.length) : rndTo t (k + 1) = Nat.lcm (rndTo t k) (t.getD k []).length := by
  unfold rndTo rnd
  rw [List.take_succ_eq_append_getElem hk, List.foldl_append, List.getD_eq_getElem?_getD, List.getElem?_eq_getElem hk]
  rfl

theorem rndTo_bd {t : List (List Int)} (h : Vld t) (k : Nat) : 1 ≤ rndTo t k ∧ rndTo t k ≤ 27720 := by
  have hm : ∀ l ∈ t.take k, 1 ≤ l.length ∧ l.length ≤ 12 := fun l hl => ⟨(h.wave l (List.mem_of_mem_take hl)).1, (h.wave l (List.mem_of_mem_take hl)).2.1⟩
  exact ⟨rnd_fold_pos _ 1 (by omega) (fun l hl => (hm l hl).1), Nat.le_of_dvd (by omega) (rnd_fold_least _ 1 27720 (Nat.one_dvd _) (fun l hl => le12_dvd (hm l hl).1 (hm l hl).2))⟩

theorem rndTo_all (t : List (List Int)) : rndTo t t.length = rnd t := by unfold rndTo; rw [List.take_length]

set_option maxHeartbeats 400000 in
theorem round_any (v : Value) (t : List (List Int)) (w : World) (hv : RowsAt w v t) (ht : Vld t) :
    Calls Tryd.prog 20 #[v] w fun e w' => e = .returned (.int .i64 (rnd t : Nat)) ∧ Below w.heap.size w w' := by
  obtain ⟨a, cap, rfl, hl, hq⟩ := id hv
  have hlo := ht.lo
  have hhi := ht.hi
  obtain ⟨b, off, rfl, hc⟩ := hq (by omega)
  clear hq hv
  go_enter Tryd.func20, Tryd.ntmps20
  go_wp2
  go_loopw [3, 8] (fun s i wr => ∃ k : Nat, k ≤ t.length ∧ i = .int .i64 k ∧ s = .int .i64 (rndTo t k : Nat) ∧ Below w.heap.size w wr) (fun _ i _ => t.length - (intOf i).toNat)
  case atStart => exact ⟨0, Nat.zero_le _, rfl, rfl, Below.refl _ _⟩
  case round =>
    obtain ⟨k, hk, rfl, rfl, hbel⟩ := hrel
    have hbd := rndTo_bd ht k
    by_cases hlt : k < t.length
    · obtain ⟨x, hx0, hi⟩ := hc k hlt
      have hw := ht.wave _ (getD_mem hlt)
      have hw1 := hw.1
      have hw2 := hw.2.1
      have E := Lib.hid (rndTo_succ t k hlt)
      have hx := keep_cell hbel hx0
      generalize t.getD k [] = lk at *
      generalize rndTo t k = r at *
      obtain ⟨xa, xc, rfl, hxr⟩ := id hi
      clear hxr hi hw hx0 hc
      go_wp2_with (go_at_call 32; refine (common_any _ _ _ hbd.1 hw1 hbd.2 hw2).mono ?_; rintro e w1 ⟨rfl, hb1⟩)
      go_roundw
      case rel => exact ⟨k + 1, by omega, by go_num, by rw [E.out], hbel.trans (hb1.mono hbel.size)⟩
      case measure => simp [intOf]; omega
    · have e : k = t.length := by omega
      subst e
      go_wp2
      go_ret
      exact ⟨ret_i (by rw [rndTo_all]), hbel⟩

end Go.Proofs.YtbgflacfemeblaaDoor

/- Texts of this claim, laid together: FdA, FdC, FdD, FdSum. -/
import Derived.Test.YtdfkaijeppdhaaaGreatDoorZHq23
import Derived.Test.YtdfkaijeppdhaaaGreatDoorProg
import Derived.KernelRfl
import Derived.BigQuiet
import Derived.Deep.QuietTactic
import Derived.Deep.RegionWith
import Derived.StillTailTactics

/- Contracts: between, within, ratios in lowest terms. -/
namespace Go.Proofs.YtdfkaijeppdhaaaGreatDoor.Fd
open Go.RowKit
theorem ret_i {a b : Int} (h : a = b) : Ending.returned (.int .i64 a) = .returned (.int .i64 b) := by rw [h]

/-- The test a ≤ b ≤ c. -/
def betw (a b c : Int) : Bool := decide (a ≤ b) && decide (b ≤ c)
theorem betw_iff (a b c : Int) : betw a b c = true ↔ a ≤ b ∧ b ≤ c := by simp [betw]
set_option maxHeartbeats 400000 in
theorem between_any (a b c : Int) (w : World) :
    Calls Tryz.prog 299 #[.int .i64 a, .int .i64 b, .int .i64 c] w fun e w' => e = .returned (.bool (betw a b c)) ∧ w = w' := by
  unfold betw
  by_cases h1 : a ≤ b
  · by_cases h2 : b ≤ c
    · go_enter Tryz.func299, Tryz.ntmps299
      go_wp2
      go_ret
      exact ⟨by simp [h1, h2], rfl⟩
    · go_enter Tryz.func299, Tryz.ntmps299
      go_wp2
      go_ret
      exact ⟨by simp [h2], rfl⟩
  · go_enter Tryz.func299, Tryz.ntmps299
    go_wp2
    go_ret
    exact ⟨by rw [decide_eq_false (show ¬ a ≤ b by omega)]; rfl, rfl⟩

/-- The two numbers of a ratio in lowest terms. -/
def rn (n d : Int) : Int := n / (Int.gcd n d : Nat)
def rd (n d : Int) : Int := d / (Int.gcd n d : Nat)
def ratV (n d : Int) : Value := .agg #[.int .i64 (rn n d), .int .i64 (rd n d)]

theorem gcd_step (x y : Nat) : Nat.gcd y (x % y) = Nat.gcd x y := by
  rw [Nat.gcd_comm x y, Nat.gcd_rec y x, Nat.gcd_comm]
theorem emod_cast (p q : Nat) : ((p : Int) % (q : Int)) = ((p % q : Nat) : Int) := (Int.natCast_emod p q).symm

theorem ratV_pos (k m : Nat) : Ending.returned (.agg #[.int .i64 ((k : Int) / ((k.gcd m : Nat) : Int)), .int .i64 ((m : Int) / ((k.gcd m : Nat) : Int))]) = .returned (ratV k m) := rfl
theorem ratV_neg (k m : Nat) : Ending.returned (.agg #[.int .i64 (-((k : Int) / ((k.gcd m : Nat) : Int))), .int .i64 ((m : Int) / ((k.gcd m : Nat) : Int))]) = .returned (ratV (-(k : Int)) m) := by
  have h : (k.gcd m : Int) ∣ (k : Int) := Int.ofNat_dvd.2 (Nat.gcd_dvd_left k m)
  have e : Int.gcd (-(k : Int)) m = k.gcd m := by rw [Int.neg_gcd]; rfl
  unfold ratV rn rd
  rw [e, Int.neg_ediv_of_dvd h]

set_option maxHeartbeats 400000 in
theorem ratio_pos (k m : Nat) (w : World) (hk : k ≤ 4000000000000000000) (hm1 : 1 ≤ m) (hm2 : m ≤ 4000000000000000000) :
    Calls Tryz.prog 308 #[.int .i64 k, .int .i64 m] w fun e w' => e = .returned (ratV k m) ∧ Below w.heap.size w w' := by
  go_enter Tryz.func308, Tryz.ntmps308
  go_wp2
  go_loopw [5, 6] (fun x y wr => ∃ p q : Nat, x = .int .i64 p ∧ y = .int .i64 q ∧ 1 ≤ p + q ∧ p ≤ 4000000000000000000 ∧ q ≤ 4000000000000000000 ∧ Hid (Nat.gcd p q = Nat.gcd k m) ∧ Below (w.heap.size + 1) (w.alloc (.cells #[.int .i64 0, .int .i64 0] 199)) wr) (fun _ y _ => (intOf y).toNat)
  case atStart => exact ⟨k, m, by go_num, rfl, by omega, by omega, by omega, rfl, Below.refl _ _⟩
  case round =>
    obtain ⟨p, q, rfl, rfl, hpq, hp2, hq2, G, hbel⟩ := hrel
    by_cases hq : 0 < q
    · have hm := Nat.mod_lt p hq
      have hne : ((q : Int) != 0) = true := by rw [bne_iff_ne]; omega
      have hne2 : ((q : Int) == 0) = false := beq_eq_false_iff_ne.2 (by omega)
      go_wp2
      go_region
      all_goals go_wp2
      all_goals go_roundw
      case rel => exact ⟨q, p % q, rfl, by rw [emod_cast], by omega, by omega, by omega, (gcd_step p q).trans G.out, hbel.drew⟩
      case measure => rw [emod_cast]; simp only [intOf]; omega
    · have e : q = 0 := by omega
      subst e
      have G' := G.out
      rw [Nat.gcd_zero_right] at G'
      clear G
      have GH := Lib.hid G'
      clear G'
      have c0 : wr.cell? ⟨w.heap.size, 0, none⟩ = some (.int .i64 0) := (hbel.cell (p := ⟨w.heap.size, 0, none⟩) (Nat.lt_succ_self _)).trans (by simp)
      have c1 : wr.cell? ⟨w.heap.size, 1, none⟩ = some (.int .i64 0) := (hbel.cell (p := ⟨w.heap.size, 1, none⟩) (Nat.lt_succ_self _)).trans (by simp)
      have f0 : wr.frozen? ⟨w.heap.size, 0, none⟩ = false := (hbel.frozen (p := ⟨w.heap.size, 0, none⟩) (Nat.lt_succ_self _)).trans (by simp)
      have f1 : wr.frozen? ⟨w.heap.size, 1, none⟩ = false := (hbel.frozen (p := ⟨w.heap.size, 1, none⟩) (Nat.lt_succ_self _)).trans (by simp)
      have hne : ((p : Int) == 0) = false := beq_eq_false_iff_ne.2 (by omega)
      have hd1 := IntWalk.tdiv_le k p (by omega) (by omega)
      have hd2 := IntWalk.tdiv_le m p (by omega) (by omega)
      go_wp2
      go_region
      all_goals go_wp2
      refine bodyPost_ret (v := .agg #[.int .i64 ((k : Int) / (p : Int)), .int .i64 ((m : Int) / (p : Int))]) (by simp [results, Tryz.results308, go_sem, c0, c1]) rfl ⟨?_, ?_⟩
      · have := GH.out
        subst this
        exact ratV_pos k m
      · exact ((((Below.refl _ w).alloc (Nat.le_refl _) _).trans (hbel.mono (Nat.le_succ _))).setCell (Nat.le_refl _) _).setCell (Nat.le_refl _) _ |>.drew

set_option maxHeartbeats 400000 in
theorem ratio_neg (k m : Nat) (w : World) (hk1 : 1 ≤ k) (hk : k ≤ 4000000000000000000) (hm1 : 1 ≤ m) (hm2 : m ≤ 4000000000000000000) :
    Calls Tryz.prog 308 #[.int .i64 (-(k : Int)), .int .i64 m] w fun e w' => e = .returned (ratV (-(k : Int)) m) ∧ Below w.heap.size w w' := by
  go_enter Tryz.func308, Tryz.ntmps308
  go_wp2
  go_loopw [5, 6] (fun x y wr => ∃ p q : Nat, x = .int .i64 p ∧ y = .int .i64 q ∧ 1 ≤ p + q ∧ p ≤ 4000000000000000000 ∧ q ≤ 4000000000000000000 ∧ Hid (Nat.gcd p q = Nat.gcd k m) ∧ Below (w.heap.size + 1) (w.alloc (.cells #[.int .i64 0, .int .i64 0] 199)) wr) (fun _ y _ => (intOf y).toNat)
  case atStart => exact ⟨k, m, by go_num, rfl, by omega, by omega, by omega, rfl, Below.refl _ _⟩
  case round =>
    obtain ⟨p, q, rfl, rfl, hpq, hp2, hq2, G, hbel⟩ := hrel
    by_cases hq : 0 < q
    · have hm := Nat.mod_lt p hq
      have hne : ((q : Int) != 0) = true := by rw [bne_iff_ne]; omega
      have hne2 : ((q : Int) == 0) = false := beq_eq_false_iff_ne.2 (by omega)
      go_wp2
      go_region
      all_goals go_wp2
      all_goals go_roundw
      case rel => exact ⟨q, p % q, rfl, by rw [emod_cast], by omega, by omega, by omega, (gcd_step p q).trans G.out, hbel.drew⟩
      case measure => rw [emod_cast]; simp only [intOf]; omega
    · have e : q = 0 := by omega
      subst e
      have G' := G.out
      rw [Nat.gcd_zero_right] at G'
      clear G
      have GH := Lib.hid G'
      clear G'
      have c0 : wr.cell? ⟨w.heap.size, 0, none⟩ = some (.int .i64 0) := (hbel.cell (p := ⟨w.heap.size, 0, none⟩) (Nat.lt_succ_self _)).trans (by simp)
      have c1 : wr.cell? ⟨w.heap.size, 1, none⟩ = some (.int .i64 0) := (hbel.cell (p := ⟨w.heap.size, 1, none⟩) (Nat.lt_succ_self _)).trans (by simp)
      have f0 : wr.frozen? ⟨w.heap.size, 0, none⟩ = false := (hbel.frozen (p := ⟨w.heap.size, 0, none⟩) (Nat.lt_succ_self _)).trans (by simp)
      have f1 : wr.frozen? ⟨w.heap.size, 1, none⟩ = false := (hbel.frozen (p := ⟨w.heap.size, 1, none⟩) (Nat.lt_succ_self _)).trans (by simp)
      have hne : ((p : Int) == 0) = false := beq_eq_false_iff_ne.2 (by omega)
      have hd1 := IntWalk.tdiv_le k p (by omega) (by omega)
      have hd2 := IntWalk.tdiv_le m p (by omega) (by omega)
      go_wp2
      go_region
      all_goals go_wp2
      refine bodyPost_ret (v := .agg #[.int .i64 (-((k : Int) / (p : Int))), .int .i64 ((m : Int) / (p : Int))]) (by simp [results, Tryz.results308, go_sem, c0, c1]) rfl ⟨?_, ?_⟩
      · have := GH.out
        subst this
        exact ratV_neg k m
      · exact ((((Below.refl _ w).alloc (Nat.le_refl _) _).trans (hbel.mono (Nat.le_succ _))).setCell (Nat.le_refl _) _).setCell (Nat.le_refl _) _ |>.drew

theorem ratio_any (n d : Int) (w : World) (hn1 : -4000000000000000000 ≤ n) (hn2 : n ≤ 4000000000000000000) (hd1 : 1 ≤ d) (hd2 : d ≤ 4000000000000000000) :
    Calls Tryz.prog 308 #[.int .i64 n, .int .i64 d] w fun e w' => e = .returned (ratV n d) ∧ Below w.heap.size w w' := by
  obtain ⟨m, rfl⟩ := Int.eq_ofNat_of_zero_le (show 0 ≤ d by omega)
  by_cases h : 0 ≤ n
  · obtain ⟨k, rfl⟩ := Int.eq_ofNat_of_zero_le h
    exact ratio_pos k m w (by omega) (by omega) (by omega)
  · obtain ⟨k, hk⟩ := Int.eq_ofNat_of_zero_le (show 0 ≤ -n by omega)
    obtain rfl : n = -(k : Int) := by omega
    exact ratio_neg k m w (by omega) (by omega) (by omega) (by omega)

end Go.Proofs.YtdfkaijeppdhaaaGreatDoor.Fd

/- Contracts: which claims are valid; the sum of claims; the first error. -/
namespace Go.Proofs.YtdfkaijeppdhaaaGreatDoor.Fd
open Go.RowKit
/-- The first index at which p holds, or -1. -/
def fidx {α : Type} (p : α → Bool) : List α → Int
  | [] => -1
  | x :: l => if p x then 0 else (if fidx p l < 0 then -1 else fidx p l + 1)

theorem fidx_any {α : Type} (p : α → Bool) : ∀ l : List α, decide (0 ≤ fidx p l) = l.any p
  | [] => by simp [fidx]
  | x :: l => by
    have ih := fidx_any p l
    unfold fidx
    rw [List.any_cons]
    cases hp : p x with
    | true => simp
    | false =>
      simp only [Bool.false_eq_true, if_false, Bool.false_or]
      rw [← ih]
      split <;> rename_i h <;> simp <;> omega

theorem fidx_none {α : Type} (p : α → Bool) : ∀ l : List α, (∀ x ∈ l, p x = false) → fidx p l = -1
  | [], _ => rfl
  | x :: l, h => by
    unfold fidx
    rw [h x (by simp), fidx_none p l (fun y hy => h y (by simp [hy]))]
    simp

theorem fidx_hit {α : Type} (p : α → Bool) : ∀ (l : List α) (k : Nat) (d : α), k < l.length → (∀ i, i < k → p (l.getD i d) = false) → p (l.getD k d) = true → fidx p l = k
  | [], k, d, h, _, _ => by simp at h
  | x :: l, 0, d, _, _, h => by
    unfold fidx
    rw [List.getD_cons_zero] at h
    simp [h]
  | x :: l, k + 1, d, hk, hn, h => by
    have h0 := hn 0 (by omega)
    rw [List.getD_cons_zero] at h0
    have ih := fidx_hit p l k d (by simpa using hk) (fun i hi => by simpa using hn (i + 1) (by omega)) (by simpa using h)
    unfold fidx
    rw [h0, ih]
    simp only [Bool.false_eq_true, if_false]
    rw [if_neg (by omega)]
    omega

theorem fidx_pre {α : Type} (p : α → Bool) (l : List α) (d : α) (h : ∀ i, i < l.length → p (l.getD i d) = false) : fidx p l = -1 :=
  fidx_none p l fun x hx => by
    obtain ⟨i, hi, rfl⟩ := List.getElem_of_mem hx
    have := h i hi
    rwa [List.getD_eq_getElem?_getD, List.getElem?_eq_getElem hi] at this

/-- A number that is no claim. -/
def noclaim (n : Int) : Bool := !(betw 0 n 1000)

set_option maxHeartbeats 400000 in
theorem noclaim_any (n : Int) (w : World) :
    Calls Tryz.prog 307 #[.int .i64 n] w fun e w' => e = .returned (.bool (noclaim n)) ∧ w = w' := by
  unfold noclaim
  go_enter Tryz.func307, Tryz.ntmps307
  go_wp2_with (go_at_call 299; refine (between_any _ _ _ _).mono ?_; rintro e w' ⟨rfl, rfl⟩)
  go_ret
  exact ⟨rfl, rfl⟩

set_option maxHeartbeats 400000 in
theorem idxClaim_any (v : Value) (l : List Int) (w : World) (hv : IntsAt w v l) :
    Calls Tryz.prog 313 #[v, .func (.func 307) #[] #[]] w fun e w' => e = .returned (.int .i64 (fidx noclaim l)) ∧ w = w' := by
  obtain ⟨a, cap, rfl, hl, hq⟩ := hv
  go_enter Tryz.func313, Tryz.ntmps313
  go_wp2
  go_loop [8] (fun i => ∃ k : Nat, k ≤ l.length ∧ i = .int .i64 k ∧ ∀ j, j < k → noclaim (l.getD j 0) = false) (fun i => l.length - (intOf i).toNat)
  case atStart => exact ⟨0, Nat.zero_le _, rfl, fun j hj => by omega⟩
  case round =>
    obtain ⟨k, hk, rfl, hn⟩ := hrel
    by_cases hlt : k < l.length
    · obtain ⟨b, off, rfl, hc⟩ := hq (by omega)
      have hcell := hc k hlt
      clear hc hq
      have HN := Lib.hid hn
      clear hn
      generalize hx : l.getD k 0 = x at hcell
      have X := Lib.hid hx
      clear hx
      cases hp : noclaim x with
      | true =>
        have P := Lib.hid hp
        clear hp
        go_wp2_with (go_at_call 307; refine (noclaim_any _ _).mono ?_; rintro e w' ⟨rfl, rfl⟩; rw [P.out])
        go_ret
        exact ⟨ret_i (fidx_hit noclaim l k 0 hlt HN.out (by rw [X.out]; exact P.out)).symm, rfl⟩
      | false =>
        have P := Lib.hid hp
        clear hp
        go_wp2_with (go_at_call 307; refine (noclaim_any _ _).mono ?_; rintro e w' ⟨rfl, rfl⟩; rw [P.out])
        go_round
        case rel => exact ⟨k + 1, by omega, by go_num, fun j hj => by
          rcases Nat.lt_succ_iff_lt_or_eq.1 hj with h | rfl
          · exact HN.out j h
          · rw [X.out]; exact P.out⟩
        case measure => simp [intOf]; omega
    · have e : k = l.length := by omega
      subst e
      go_wp2
      go_ret
      exact ⟨ret_i (fidx_pre noclaim l 0 hn).symm, rfl⟩

set_option maxHeartbeats 400000 in
theorem contClaim_any (v : Value) (l : List Int) (w : World) (hv : IntsAt w v l) :
    Calls Tryz.prog 306 #[v, .func (.func 307) #[] #[]] w fun e w' => e = .returned (.bool (l.any noclaim)) ∧ w = w' := by
  have E := Lib.hid (fidx_any noclaim l)
  go_enter Tryz.func306, Tryz.ntmps306
  go_wp2_with (go_at_call 313; refine (idxClaim_any _ _ _ hv).mono ?_; rintro e w' ⟨rfl, rfl⟩)
  go_ret
  exact ⟨by rw [← E.out]; rfl, rfl⟩


/-- The claims are valid. -/
def cvl (t : List Int) : Bool := betw 1 t.length 8 && !t.any noclaim

/-- What valid claims are. -/
structure Cvl (t : List Int) : Prop where
  lo : 1 ≤ t.length
  hi : t.length ≤ 8
  holds : ∀ n ∈ t, 0 ≤ n ∧ n ≤ 1000

theorem cvl_iff (t : List Int) : cvl t = true ↔ Cvl t := by
  unfold cvl
  rw [Bool.and_eq_true, betw_iff]
  constructor
  · rintro ⟨h, k⟩
    refine ⟨by omega, by omega, fun n hn => ?_⟩
    simp only [Bool.not_eq_true', List.any_eq_false] at k
    have := k n hn
    simpa [noclaim, betw] using this
  · rintro ⟨h1, h2, h3⟩
    refine ⟨by omega, ?_⟩
    simp only [Bool.not_eq_true', List.any_eq_false]
    intro n hn
    have := h3 n hn
    simp [noclaim, betw, this]

set_option maxHeartbeats 400000 in
theorem valid_any (v : Value) (t : List Int) (w : World) (hv : IntsAt w v t) :
    Calls Tryz.prog 298 #[v] w fun e w' => e = .returned (.bool (cvl t)) ∧ w = w' := by
  unfold cvl
  obtain ⟨a, cap, rfl, hr⟩ := id hv
  have hv' : IntsAt w (.slice a t.length cap) t := hv
  clear hv
  cases hb : betw 1 t.length 8 with
  | true =>
    have B := Lib.hid hb
    clear hb
    go_enter Tryz.func298, Tryz.ntmps298
    go_wp2_with (first | (go_at_call 299; refine (between_any _ _ _ _).mono ?_; rintro e w' ⟨rfl, rfl⟩; rw [B.out]) | (go_at_call 306; refine (contClaim_any _ _ _ hv').mono ?_; rintro e w' ⟨rfl, rfl⟩))
    go_ret
    exact ⟨rfl, rfl⟩
  | false =>
    have B := Lib.hid hb
    clear hb
    go_enter Tryz.func298, Tryz.ntmps298
    go_wp2_with (first | (go_at_call 299; refine (between_any _ _ _ _).mono ?_; rintro e w' ⟨rfl, rfl⟩; rw [B.out]))
    go_ret
    exact ⟨rfl, rfl⟩

theorem ints_cell {w : World} {v : Value} {l : List Int} (h : IntsAt w v l) (h0 : 0 < l.length) :
    ∃ b off cap, v = .slice (some ⟨b, off, none⟩) l.length cap ∧ ∀ j, j < l.length → w.cell? ⟨b, off + j, none⟩ = some (.int .i64 (l.getD j 0)) := by
  obtain ⟨a, cap, rfl, _, hq⟩ := h
  obtain ⟨b, off, rfl, hc⟩ := hq h0
  exact ⟨b, off, cap, rfl, hc⟩

/-- The sum of a list. -/
def tot (c : List Int) : Int := c.foldl (· + ·) 0
theorem tot_snoc {c : List Int} {k : Nat} (hk : k < c.length) : tot (c.take (k + 1)) = tot (c.take k) + c.getD k 0 := by
  rw [List.take_succ_eq_append_getElem hk, tot, List.foldl_append, List.getD_eq_getElem?_getD, List.getElem?_eq_getElem hk]
  rfl
theorem mem_getD {t : List Int} {k : Nat} (hk : k < t.length) : t.getD k 0 ∈ t := by
  rw [List.getD_eq_getElem?_getD, List.getElem?_eq_getElem hk]; simp
theorem tot_bd {c : List Int} (h : Cvl c) : ∀ k, k ≤ c.length → 0 ≤ tot (c.take k) ∧ tot (c.take k) ≤ 1000 * k
  | 0, _ => by simp [tot]
  | k + 1, hk => by
    have ih := tot_bd h k (by omega)
    have := h.holds _ (mem_getD (show k < c.length by omega))
    rw [tot_snoc (by omega)]
    omega


set_option maxHeartbeats 400000 in
theorem sum_any (v : Value) (c : List Int) (w : World) (hv : IntsAt w v c) (ht : Cvl c) :
    Calls Tryz.prog 294 #[v] w fun e w' => e = .returned (.int .i64 (tot c)) ∧ w = w' := by
  obtain ⟨b, off, cap, rfl, hc⟩ := ints_cell hv (by have := ht.lo; omega)
  have hhi := ht.hi
  clear hv
  go_enter Tryz.func294, Tryz.ntmps294
  go_wp2
  go_loop [3, 8] (fun s i => ∃ k : Nat, k ≤ c.length ∧ i = .int .i64 k ∧ s = .int .i64 (tot (c.take k))) (fun _ i => c.length - (intOf i).toNat)
  case atStart => exact ⟨0, Nat.zero_le _, rfl, rfl⟩
  case round =>
    obtain ⟨k, hk, rfl, rfl⟩ := hrel
    by_cases hlt : k < c.length
    · have hcell := hc k hlt
      have E := Lib.hid (tot_snoc hlt)
      have b1 := tot_bd ht k hk
      have b2 := ht.holds _ (mem_getD hlt)
      generalize c.getD k 0 = x at *
      generalize tot (c.take k) = s at *
      clear hc
      go_wp2
      go_round
      case rel => exact ⟨k + 1, by omega, by go_num, by rw [E.out]⟩
      case measure => simp [intOf]; omega
    · have e : k = c.length := by omega
      subst e
      go_wp2
      go_ret
      exact ⟨ret_i (by first | rfl | rw [List.take_length]), rfl⟩

end Go.Proofs.YtdfkaijeppdhaaaGreatDoor.Fd

/- Contracts: the first error of claims and an estate; products modulo a number. -/
namespace Go.Proofs.YtdfkaijeppdhaaaGreatDoor.Fd
open Go.RowKit
/-- The first error of claims and an estate. -/
def askE (c : List Int) (n : Int) : Int := if cvl c then (if betw 0 n (tot c) then 0 else 2) else 80


set_option maxHeartbeats 1000000 in
theorem checked_any (v : Value) (c : List Int) (n : Int) (w : World) (hv : IntsAt w v c) :
    Calls Tryz.prog 295 #[v, .int .i64 n] w fun e w' => e = .returned (.int .i64 (askE c n)) ∧ w = w' := by
  unfold askE
  cases hy : cvl c with
  | false =>
    have Y := Lib.hid hy
    clear hy
    go_enter Tryz.func295, Tryz.ntmps295
    go_wp2_with fail
    refine (valid_any _ _ _ hv).mono ?_
    rintro e w' ⟨rfl, rfl⟩
    rw [Y.out]
    go_wp2
    go_ret
    exact ⟨rfl, rfl⟩
  | true =>
    have ht := (cvl_iff c).1 hy
    have Y := Lib.hid hy
    clear hy
    cases hb : betw 0 n (tot c) with
    | false =>
      have B := Lib.hid hb
      clear hb
      go_enter Tryz.func295, Tryz.ntmps295
      go_wp2_with fail
      refine (valid_any _ _ _ hv).mono ?_
      rintro e w' ⟨rfl, rfl⟩
      rw [Y.out]
      go_wp2_with fail
      refine (sum_any _ _ _ hv ht).mono ?_
      rintro e w' ⟨rfl, rfl⟩
      go_wp2_with fail
      refine (between_any _ _ _ _).mono ?_
      rintro e w' ⟨rfl, rfl⟩
      rw [B.out]
      go_wp2
      go_ret
      exact ⟨rfl, rfl⟩
    | true =>
      have B := Lib.hid hb
      clear hb
      go_enter Tryz.func295, Tryz.ntmps295
      go_wp2_with fail
      refine (valid_any _ _ _ hv).mono ?_
      rintro e w' ⟨rfl, rfl⟩
      rw [Y.out]
      go_wp2_with fail
      refine (sum_any _ _ _ hv ht).mono ?_
      rintro e w' ⟨rfl, rfl⟩
      go_wp2_with fail
      refine (between_any _ _ _ _).mono ?_
      rintro e w' ⟨rfl, rfl⟩
      rw [B.out]
      go_wp2
      go_ret
      exact ⟨rfl, rfl⟩

end Go.Proofs.YtdfkaijeppdhaaaGreatDoor.Fd

/- Plain mathematics: whether ratios add up to a whole number, by remainders. -/
namespace Go.Proofs.YtdfkaijeppdhaaaGreatDoor.Fd
/-- A ratio as a pair. -/
abbrev Rat2 := Int × Int

end Go.Proofs.YtdfkaijeppdhaaaGreatDoor.Fd

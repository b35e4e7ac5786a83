/- Contracts: whether all deeds are deeds of the tanks (the program). -/
import Derived.Test.YtikcpfpeoofppaaK
import Derived.Test.YtikcpfpeoofppaaE
namespace Go.Proofs.Ytikcpfpeoofppaa
open Go.RowKit

theorem fidx_step {l : List Deed} {k : Nat} {c e : Deed} (H : ∀ j, j < k → decide (l.getD j noDeed = c) = false) (D : l.getD k noDeed = e) (hne : ¬ e = c) : ∀ j, j < k + 1 → decide (l.getD j noDeed = c) = false := fun j hj => by
  rcases Nat.lt_succ_iff_lt_or_eq.1 hj with h | rfl
  · exact H j h
  · rw [D]; exact decide_eq_false hne


set_option maxHeartbeats 1000000 in
theorem idxDeed_any (v : Value) (l : List Deed) (d : Deed) (w : World) (hv : DeedsAt w v l) :
    Calls Try.prog 113 #[v, deedV d] w fun e w' => e = .returned (.int .i64 (fidx (fun x => decide (x = d)) l)) ∧ Below w.heap.size w w' := by
  obtain ⟨a, cap, rfl, hl, hq⟩ := hv
  obtain ⟨e1, e2, e3⟩ := d
  simp only [deedV]
  have hB0 := (Below.refl w.heap.size w).alloc (Nat.le_refl _) (.cells #[.int .i64 e1, .int .i64 e2, .int .i64 e3] 43)
  go_enter Try.func113, Try.ntmps113
  go_wp2
  go_loopw [8] (fun i wr => ∃ k : Nat, k ≤ l.length ∧ i = .int .i64 k ∧ Hid (∀ j, j < k → decide (l.getD j noDeed = (e1, e2, e3)) = false) ∧ Below (w.heap.size + 1) (w.alloc (.cells #[.int .i64 e1, .int .i64 e2, .int .i64 e3] 43)) wr) (fun i _ => l.length - (intOf i).toNat)
  case atStart => exact ⟨0, Nat.zero_le _, rfl, Lib.hid (fun j hj => by omega), Below.refl _ _⟩
  case round =>
    obtain ⟨k, hk, rfl, H, hbel⟩ := hrel
    have hall : Below w.heap.size w wr := hB0.trans (hbel.mono (by simp))
    have y1 := (hbel.cell (p := ⟨w.heap.size, 0, none⟩) (by simp)).trans (cell3_new w (.int .i64 e1) (.int .i64 e2) (.int .i64 e3) _ rfl 0 _ rfl)
    have y2 := (hbel.cell (p := ⟨w.heap.size, 1, none⟩) (by simp)).trans (cell3_new w (.int .i64 e1) (.int .i64 e2) (.int .i64 e3) _ rfl 1 _ rfl)
    have y3 := (hbel.cell (p := ⟨w.heap.size, 2, none⟩) (by simp)).trans (cell3_new w (.int .i64 e1) (.int .i64 e2) (.int .i64 e3) _ rfl 2 _ rfl)
    by_cases hlt : k < l.length
    · obtain ⟨b, off, rfl, hc⟩ := hq (by omega)
      obtain ⟨x1, x2, x3⟩ := hc k hlt
      have z1 := keep_cell hall x1
      have z2 := keep_cell hall x2
      have z3 := keep_cell hall x3
      clear hc hq x1 x2 x3
      generalize hd : l.getD k noDeed = d at *
      obtain ⟨d1, d2, d3⟩ := d
      have D := Lib.hid hd
      clear hd
      simp only at z1 z2 z3
      by_cases q1 : e1 = d1
      · subst q1
        by_cases q2 : e2 = d2
        · subst q2
          by_cases q3 : e3 = d3
          · subst q3
            have R := Lib.hid (fidx_hit (fun x => decide (x = (e1, e2, e3))) l k noDeed hlt H.out (by rw [D.out]; simp)).symm
            go_wp2
            refine wp_region_quiet_lit (by kernel_rfl) (by kernel_rfl) ?_
            repeat (any_goals (first | go_big_quiet_step (fail) | quiet_step (fail)))
            all_goals (refine wpQuiet_nil ?_; intro _ hw'; obtain ⟨nq, hw''⟩ := hw'; subst hw'')
            all_goals go_wp2
            go_ret
            exact ⟨ret_i R.out, below_drewN hall _⟩
          · have N := Lib.hid (fidx_step H.out D.out (by simp only [Prod.mk.injEq]; omega))
            have hne := beq_eq_false_iff_ne.2 q3
            clear q3
            go_wp2
            refine wp_region_quiet_lit (by kernel_rfl) (by kernel_rfl) ?_
            repeat (any_goals (first | go_big_quiet_step (fail) | quiet_step (fail)))
            all_goals (refine wpQuiet_nil ?_; intro _ hw'; obtain ⟨nq, hw''⟩ := hw'; subst hw'')
            all_goals go_wp2
            go_roundw
            case rel => exact ⟨k + 1, by omega, by go_num, N, below_drewN hbel _⟩
            case measure => simp [intOf]; omega
        · have N := Lib.hid (fidx_step H.out D.out (by simp only [Prod.mk.injEq]; omega))
          have hne := beq_eq_false_iff_ne.2 q2
          clear q2
          go_wp2
          refine wp_region_quiet_lit (by kernel_rfl) (by kernel_rfl) ?_
          repeat (any_goals (first | go_big_quiet_step (fail) | quiet_step (fail)))
          all_goals (refine wpQuiet_nil ?_; intro _ hw'; obtain ⟨nq, hw''⟩ := hw'; subst hw'')
          all_goals go_wp2
          go_roundw
          case rel => exact ⟨k + 1, by omega, by go_num, N, below_drewN hbel _⟩
          case measure => simp [intOf]; omega
      · have N := Lib.hid (fidx_step H.out D.out (by simp only [Prod.mk.injEq]; omega))
        have hne := beq_eq_false_iff_ne.2 q1
        clear q1
        go_wp2
        refine wp_region_quiet_lit (by kernel_rfl) (by kernel_rfl) ?_
        repeat (any_goals (first | go_big_quiet_step (fail) | quiet_step (fail)))
        all_goals (refine wpQuiet_nil ?_; intro _ hw'; obtain ⟨nq, hw''⟩ := hw'; subst hw'')
        all_goals go_wp2
        go_roundw
        case rel => exact ⟨k + 1, by omega, by go_num, N, below_drewN hbel _⟩
        case measure => simp [intOf]; omega
    · obtain rfl : k = l.length := by omega
      have N := Lib.hid (fidx_pre (fun x => decide (x = (e1, e2, e3))) l noDeed H.out).symm
      go_wp2
      go_ret
      exact ⟨ret_i N.out, hall⟩

set_option maxHeartbeats 400000 in
theorem contDeed_any (v : Value) (l : List Deed) (d : Deed) (w : World) (hv : DeedsAt w v l) :
    Calls Try.prog 99 #[v, deedV d] w fun e w' => e = .returned (.bool (decide (d ∈ l))) ∧ Below w.heap.size w w' := by
  obtain ⟨e1, e2, e3⟩ := d
  have E := Lib.hid (show decide (0 ≤ fidx (fun x => decide (x = (e1, e2, e3))) l) = decide ((e1, e2, e3) ∈ l) by
    rw [fidx_any, Bool.eq_iff_iff, List.any_eq_true, decide_eq_true_iff]
    constructor
    · rintro ⟨x, hx, he⟩
      rw [decide_eq_true_iff] at he
      rwa [he] at hx
    · intro h
      exact ⟨_, h, by simp⟩)
  have hB0 := (Below.refl w.heap.size w).alloc (Nat.le_refl _) (.cells #[.int .i64 e1, .int .i64 e2, .int .i64 e3] 43)
  have C := Lib.hid (idxDeed_any v l (e1, e2, e3) _ (hv.below hB0))
  clear hv
  simp only [deedV] at C ⊢
  go_enter Try.func99, Try.ntmps99
  go_wp2_with (go_at_call 113; refine C.out.mono ?_; rintro e w' ⟨rfl, hb1⟩)
  go_ret
  exact ⟨ret_b E.out, hB0.trans (hb1.mono (by simp))⟩

set_option maxHeartbeats 400000 in
theorem notDeed_any (Bx : Nat) (va : Value) (l : List Deed) (d : Deed) (w : World) (hc : w.cell? ⟨Bx, 0, none⟩ = some va) (hv : DeedsAt w va l) :
    Calls Try.prog 98 #[deedV d, .pointer (some ⟨Bx, 0, none⟩)] w fun e w' => e = .returned (.bool (!decide (d ∈ l))) ∧ Below w.heap.size w w' := by
  obtain ⟨e1, e2, e3⟩ := d
  have hB0 := (Below.refl w.heap.size w).alloc (Nat.le_refl _) (.cells #[.int .i64 e1, .int .i64 e2, .int .i64 e3] 43)
  have C := Lib.hid (contDeed_any va l (e1, e2, e3) _ (hv.below hB0))
  have hc' := keep_cell hB0 hc
  obtain ⟨a, cap, rfl, _⟩ := hv
  simp only [deedV] at C ⊢
  go_enter Try.func98, Try.ntmps98
  go_wp2_with (go_at_call 99; refine C.out.mono ?_; rintro e w' ⟨rfl, hb1⟩)
  go_ret
  exact ⟨rfl, hB0.trans (hb1.mono (by simp))⟩

set_option maxHeartbeats 1000000 in
theorem idxNot_any (Bx : Nat) (va v : Value) (m l : List Deed) (w : World) (hc : w.cell? ⟨Bx, 0, none⟩ = some va) (ha : DeedsAt w va m) (hv : DeedsAt w v l) :
    Calls Try.prog 112 #[v, .func (.func 98) #[] #[.pointer (some ⟨Bx, 0, none⟩)]] w fun e w' => e = .returned (.int .i64 (fidx (fun x => !decide (x ∈ m)) l)) ∧ Below w.heap.size w w' := by
  obtain ⟨a, cap, rfl, hl, hq⟩ := hv
  go_enter Try.func112, Try.ntmps112
  go_wp2
  go_loopw [8] (fun i wr => ∃ k : Nat, k ≤ l.length ∧ i = .int .i64 k ∧ Hid (∀ j, j < k → (!decide (l.getD j noDeed ∈ m)) = false) ∧ Below w.heap.size w wr) (fun i _ => l.length - (intOf i).toNat)
  case atStart => exact ⟨0, Nat.zero_le _, rfl, Lib.hid (fun j hj => by omega), Below.refl _ _⟩
  case round =>
    obtain ⟨k, hk, rfl, H, hbel⟩ := hrel
    by_cases hlt : k < l.length
    · obtain ⟨b, off, rfl, hcs⟩ := hq (by omega)
      obtain ⟨x1, x2, x3⟩ := hcs k hlt
      have z1 := keep_cell hbel x1
      have z2 := keep_cell hbel x2
      have z3 := keep_cell hbel x3
      have C := Lib.hid (notDeed_any Bx va m (l.getD k noDeed) wr (keep_cell hbel hc) (ha.below hbel))
      have P := Lib.hid (fun (h : (!decide (l.getD k noDeed ∈ m)) = true) => (fidx_hit (fun x => !decide (x ∈ m)) l k noDeed hlt H.out h).symm)
      have N := Lib.hid (fun (h : (!decide (l.getD k noDeed ∈ m)) = false) => show ∀ j, j < k + 1 → (!decide (l.getD j noDeed ∈ m)) = false from fun j hj => by
        rcases Nat.lt_succ_iff_lt_or_eq.1 hj with h' | rfl
        · exact H.out j h'
        · exact h)
      clear hcs hq x1 x2 x3
      generalize l.getD k noDeed = d at *
      obtain ⟨d1, d2, d3⟩ := d
      simp only at z1 z2 z3
      simp only [deedV] at C
      cases hp : (!decide ((d1, d2, d3) ∈ m)) with
      | true =>
        have R := Lib.hid (P.out hp)
        clear P N
        rw [hp] at C
        clear hp
        go_wp2_with (go_at_call 98; refine C.out.mono ?_; rintro e w' ⟨rfl, hb1⟩)
        go_ret
        exact ⟨ret_i R.out, hbel.trans (hb1.mono hbel.size)⟩
      | false =>
        have R := Lib.hid (N.out hp)
        clear P N
        rw [hp] at C
        clear hp
        go_wp2_with (go_at_call 98; refine C.out.mono ?_; rintro e w' ⟨rfl, hb1⟩)
        go_roundw
        case rel => exact ⟨k + 1, by omega, by go_num, R, hbel.trans (hb1.mono hbel.size)⟩
        case measure => simp [intOf]; omega
    · obtain rfl : k = l.length := by omega
      have N := Lib.hid (fidx_pre (fun x => !decide (x ∈ m)) l noDeed H.out).symm
      go_wp2
      go_ret
      exact ⟨ret_i N.out, hbel⟩

set_option maxHeartbeats 400000 in
theorem contNot_any (Bx : Nat) (va v : Value) (m l : List Deed) (w : World) (hc : w.cell? ⟨Bx, 0, none⟩ = some va) (ha : DeedsAt w va m) (hv : DeedsAt w v l) :
    Calls Try.prog 97 #[v, .func (.func 98) #[] #[.pointer (some ⟨Bx, 0, none⟩)]] w fun e w' => e = .returned (.bool (l.any fun x => !decide (x ∈ m))) ∧ Below w.heap.size w w' := by
  have E := Lib.hid (fidx_any (fun x => !decide (x ∈ m)) l)
  have C := Lib.hid (idxNot_any Bx va v m l w hc ha hv)
  clear hc ha
  obtain ⟨a, cap, rfl, _⟩ := hv
  go_enter Try.func97, Try.ntmps97
  go_wp2_with (go_at_call 112; refine C.out.mono ?_; rintro e w' ⟨rfl, hb1⟩)
  go_ret
  exact ⟨ret_b E.out, hb1⟩

theorem appendSeq_any (Bs : Nat) (a : Option Addr) (m cap : Nat) (hm : m ≤ 4) (w : World) (hc : w.cell? ⟨Bs, 0, none⟩ = some (.slice a m cap)) :
    Calls Try.prog 111 #[.slice none 0 0, .func (.func 88) #[] #[.pointer (some ⟨Bs, 0, none⟩)]] w fun e W' => ∃ v', e = .returned v' ∧ DeedsAt W' v' (deedsL m) ∧ Below w.heap.size w W' :=
  ((callsIn_wide (n := 4)).1 (appendSeq_in Fence.wide 4 trivial trivial rfl (by omega) Bs a m cap hm w (World.block_lt_of_cell? _ _ hc) hc)).mono fun _ _ ⟨v', h1, h2, h3⟩ => ⟨v', h1, own_deeds h2 (Nat.le_trans (deedsL_len hm) (by omega)), h3⟩

set_option maxHeartbeats 400000 in
theorem collect_any (Bs : Nat) (a : Option Addr) (m cap : Nat) (hm : m ≤ 4) (w : World) (hc : w.cell? ⟨Bs, 0, none⟩ = some (.slice a m cap)) :
    Calls Try.prog 96 #[.func (.func 88) #[] #[.pointer (some ⟨Bs, 0, none⟩)]] w fun e W' => ∃ v', e = .returned v' ∧ DeedsAt W' v' (deedsL m) ∧ Below w.heap.size w W' := by
  have A := Lib.hid (appendSeq_any Bs a m cap hm w hc)
  clear hc
  go_enter Try.func96, Try.ntmps96
  go_wp2_with fail
  refine A.out.mono ?_
  rintro e w1 ⟨v1, rfl, hD, hb1⟩
  have HD := Lib.hid hD
  clear hD
  go_wp2
  go_ret
  exact ⟨_, rfl, HD.out, hb1⟩

/-- All are deeds of n tanks, and they are not too many. -/
def areD (n : Nat) (l : List Deed) : Bool := decide (l.length ≤ 200) && decide (∀ d ∈ l, d ∈ deedsL n)
theorem areD_iff (n : Nat) (l : List Deed) : areD n l = true ↔ l.length ≤ 200 ∧ ∀ d ∈ l, IsD n d := by
  unfold areD
  rw [Bool.and_eq_true, decide_eq_true_iff, decide_eq_true_iff]
  simp only [mem_deedsL]

set_option maxHeartbeats 1000000 in
theorem tAreDeeds_any (v x : Value) (t : List Int) (l : List Deed) (w : World) (hv : IntsAt w v t) (ht : t.length ≤ 4) (hx : DeedsAt w x l) :
    Calls Try.prog 89 #[v, x] w fun e w' => e = .returned (.bool (areD t.length l)) ∧ Below w.heap.size w w' := by
  obtain ⟨a, cap, rfl, _⟩ := hv
  have hB0 := (Below.refl w.heap.size w).alloc (Nat.le_refl _) (.cells #[.slice a t.length cap] 29)
  have A := Lib.hid (collect_any w.heap.size a t.length cap ht (w.alloc (.cells #[.slice a t.length cap] 29)) (cell_one_new _ _ _ 0 _ rfl))
  have hx1 := hx.below hB0
  have X := Lib.hid hx
  obtain ⟨a2, cap2, rfl, hl, _⟩ := hx
  go_enter Try.func89, Try.ntmps89
  go_wp2_with fail
  refine (deeds_any a t.length cap w).mono ?_
  rintro e w' ⟨rfl, rfl⟩
  go_wp2_with fail
  refine A.out.mono ?_
  rintro e w1 ⟨v1, rfl, hD, hb1⟩
  have hb2 : Below w.heap.size w w1 := hB0.trans (hb1.mono (by simp))
  obtain ⟨a1, cap1, rfl, hD2⟩ := id hD
  have hB1 := (Below.refl w1.heap.size w1).alloc (Nat.le_refl _) (.cells #[.slice a1 (deedsL t.length).length cap1] 22)
  have hb3 : Below w.heap.size w (w1.alloc (.cells #[.slice a1 (deedsL t.length).length cap1] 22)) := hb2.trans (hB1.mono hb2.size)
  have C := Lib.hid (contNot_any w1.heap.size _ _ (deedsL t.length) l _ (cell_one_new w1 (.slice a1 (deedsL t.length).length cap1) 22 0 _ rfl) (DeedsAt.below hD hB1) (X.out.below hb3))
  clear hD hD2 X hx1 A
  by_cases hlen : l.length ≤ 200
  · have E := Lib.hid (show (!(l.any fun x => !decide (x ∈ deedsL t.length))) = areD t.length l by
      unfold areD
      rw [decide_eq_true hlen, Bool.true_and, Bool.eq_iff_iff, Bool.not_eq_true', List.any_eq_false, decide_eq_true_iff]
      constructor
      · intro h d hd
        have := h d hd
        simpa using this
      · intro h d hd
        have := h d hd
        simpa using this)
    have hl2 : ((l.length : Nat) : Int) ≤ 200 := by omega
    clear hlen
    go_wp2_with fail
    refine C.out.mono ?_
    rintro e w' ⟨rfl, hb4⟩
    go_wp2
    go_ret
    exact ⟨ret_b E.out, hb3.trans (hb4.mono hb3.size)⟩
  · have E := Lib.hid (show false = areD t.length l by unfold areD; rw [decide_eq_false hlen, Bool.false_and])
    have hl2 : ¬ ((l.length : Nat) : Int) ≤ 200 := by omega
    clear hlen C
    go_wp2
    go_ret
    exact ⟨ret_b E.out, hb3⟩

end Go.Proofs.Ytikcpfpeoofppaa

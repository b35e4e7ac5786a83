/- Contract: Two of the reference. -/
import Derived.Test.YtikcpfpeoofppaaF
namespace Go.Proofs.Ytikcpfpeoofppaa
open Go.RowKit

theorem IntsAt.grown {w w' : World} {v : Value} {l : List Int} {row : Option Nat} (h : IntsAt w v l) (hg : w.grownBy w' row) (hne : ∀ k, v.ownBlock = some k → some k ≠ row) : IntsAt w' v l := by
  obtain ⟨a, cap, rfl, hl, hq⟩ := h
  refine ⟨a, cap, rfl, hl, fun h0 => ?_⟩
  obtain ⟨b, off, rfl, hc⟩ := hq h0
  refine ⟨b, off, rfl, fun j hj => ?_⟩
  have hk := hc j hj
  have hlt := World.block_lt_of_cell? _ _ hk
  rw [World.cell?_of_block (hg.block b hlt (hne b rfl))]
  exact hk

theorem ints_pair {w : World} {v : Value} {p q : Int} (h : IntsAt w v [p, q]) : ∃ b off cap, v = .slice (some ⟨b, off, none⟩) 2 cap ∧ w.cell? ⟨b, off, none⟩ = some (.int .i64 p) ∧ w.cell? ⟨b, off + 1, none⟩ = some (.int .i64 q) := by
  obtain ⟨b, off, cap, rfl, hc⟩ := ints_cell h (by simp)
  have h0 := hc 0 (by simp)
  have h1 := hc 1 (by simp)
  simp only [Nat.add_zero] at h0
  exact ⟨b, off, cap, rfl, by simpa using h0, by simpa using h1⟩

theorem lev_two {a b p q : Nat} (hp : p ≤ a) (hq : q ≤ b) : Lev [(a : Int), (b : Int)] [(p : Int), (q : Int)] := by
  refine ⟨rfl, fun j hj => ?_⟩
  rcases j with _ | _ | j
  · simp; omega
  · simp; omega
  · simp at hj; omega


set_option maxRecDepth 100000 in
set_option maxHeartbeats 2000000 in
theorem rTwo_main (a b n : Nat) (w : World) (ha : 1 ≤ a ∧ a ≤ 12) (hb : 1 ≤ b ∧ b ≤ 12) (hn : n ≤ b) (hd : n % gcl [(a : Int), (b : Int)] = 0) :
    Calls Try.prog 18 #[.int .i64 a, .int .i64 b, .int .i64 n] w (GivesDE ((twoT a b n).map dZ) 0 w) := by
  have hT := tvl_two ha hb
  have hg := hT.gcl_pos
  have hgb : gcl [(a : Int), (b : Int)] = Nat.gcd a b := by simp [gcl]
  have hS := Lib.hid (TwoSt.start ha hb hn (by rw [← hgb]; exact hd))
  have hV : Hid (tvl [(a : Int), (b : Int)] = true) := Lib.hid ((tvl_iff _).2 hT)
  have hB : Hid (betw 0 (n : Int) (b : Int) = true) := Lib.hid ((betw_iff _ _ _).2 ⟨by omega, by omega⟩)
  have hI := ints_two w a b 3
  have hal : Below w.heap.size w (w.alloc (.cells #[.int .i64 a, .int .i64 b] 3)) := (Below.refl _ w).alloc (Nat.le_refl _) _
  have hm : ((n : Int) % ((gcl [(a : Int), (b : Int)] : Nat) : Int) != 0) = false := by
    rw [bne_eq_false_iff_eq, ← Int.natCast_emod, hd]; rfl
  have hM := fun W v (h : IntsAt W v [(a : Int), (b : Int)]) => rmeasure_any v _ W h hT
  generalize gcl [(a : Int), (b : Int)] = G at *
  obtain ⟨i0, hi0, hz0, hz1, hz2⟩ := info_parts Try.infoDeed
  have HM := Lib.hid hM
  have HI := Lib.hid hI
  have HT := Lib.hid hT
  clear hM hI hgb hT hd
  go_enter Try.func18, Try.ntmps18
  go_wp2_with fail
  refine (rValid_any _ _ _ HI.out).mono ?_
  rintro e w' ⟨rfl, rfl⟩
  rw [hV.out]
  go_wp2_with fail
  refine (within_any _ _ _ _).mono ?_
  rintro e w' ⟨rfl, rfl⟩
  rw [hB.out]
  go_wp2_with fail
  refine (HM.out _ _ HI.out).mono ?_
  rintro e w' ⟨rfl, rfl⟩
  have hI1 := HI.out
  generalize hw1 : w.alloc (.cells #[.int .i64 a, .int .i64 b] 3) = w1 at *
  have HW := Lib.hid hw1
  clear hw1 HI
  go_wp2
  go_loopw [9, 10] (fun o now wr => ∃ (k p q : Nat) (dn : List (Nat × Nat × Nat)) (X : Nat), TwoSt a b n k p q dn ∧ wr.ownsRow w1.heap.size 43 3 o dn.length (flatD (dn.map dZ)) ∧ IntsAt wr now [(p : Int), (q : Int)] ∧ (∀ i, o.ownBlock = some i → i < X) ∧ (∀ i, now.ownBlock = some i → X ≤ i) ∧ Below w1.heap.size w1 wr) (fun o _ _ => 64 - sliceN o)
  case atStart => exact ⟨64, 0, 0, [], w1.heap.size, hS.out, World.ownsRow_nil _ _ _ _, ints_two w1 0 0 _, fun i hi => by simp [Value.ownBlock] at hi, fun i hi => by simp [Value.ownBlock] at hi; omega, (Below.refl _ _).alloc (Nat.le_refl _) _⟩
  case round =>
    obtain ⟨k, p, q, dn, X, St, hown, hnow, hX1, hX2, hbel⟩ := hrel
    have q0 := St.q0
    have p0 := St.p0
    obtain ⟨nb, noff, ncap, rfl, n0, n1⟩ := ints_pair hnow
    have hnb : nb < wr.heap.size := World.block_lt_of_cell? _ _ n0
    by_cases hq : q = n
    · subst hq
      have T := Lib.hid St.stop
      have hL : ((dn.map dZ).length : Nat) = dn.length := List.length_map _
      have hd64 : dn.length ≤ 64 := by have := St.len; omega
      have DD := Lib.hid (own_deeds (l := dn.map dZ) (by rw [hL]; exact hown) (by omega))
      clear hL hX1 hX2 hnow
      go_wp2
      go_ret2
      exact ⟨_, rfl, by rw [T.out]; exact DD.out, below_trans hal hbel⟩
    · have hne : ((q : Int) != (n : Int)) = true := by rw [bne_iff_ne]; omega
      obtain ⟨k', hk, St2⟩ := St.next hq
      have ST := Lib.hid St2
      have hlen : dn.length ≤ 63 := by have := St.len; omega
      have hws := hbel.size
      have M1 := Lib.hid (own_sliceN hown)
      have X1 := Lib.hid hX1
      have X2 := Lib.hid hX2
      have NO := Lib.hid hnow
      clear hk St2 St hX1 hX2 hnow
      by_cases h1 : q = b
      · have hb1' : ((q : Int) == (b : Int)) = true := by rw [beq_iff_eq]; omega
        have ED : Hid (dZ (twoD b p q) = (2, 0, 1)) := Lib.hid (by simp [dZ, twoD, h1])
        have PQ : Hid ([(p : Int), (q : Int)].set 1 0 = [(twoP a b p q : Int), (twoQ b p q : Int)]) := Lib.hid (by simp [twoP, twoQ, h1])
        have H1 := Lib.hid h1
        clear h1
        go_wp2_with (at_builtin; refine wpList_append_own _ rfl _ _ 22 rfl w1.heap.size 43 i0 (.agg #[.int .i64 0, .int .i64 0, .int .i64 0]) 3 24 Try.underlying22 hi0 hz0 hz1 hz2 rfl (by decide) _ _ _ rfl ((hown.alloc _).alloc _) ⟨wr.heap.size + 1, 0, none⟩ 1 1 [.int .i64 2, .int .i64 0, .int .i64 1] rfl rfl (cell3_new _ _ _ _ _ (World.size_alloc _ _)) ?c2 ?c3 ?c4 ?c5 ?_)
        case c2 => intro u hu; simp at hu; rcases hu with rfl | rfl | rfl <;> rfl
        case c3 => unfold maxLen; omega
        case c4 => omega
        case c5 => simp; omega
        intro v' w3 hown' hgrow _
        have R : Below w1.heap.size wr w3 := below_append ((Below.refl _ wr).alloc (by omega) _) (by simp; omega) (hown.alloc _) hgrow
        have x0 : w3.cell? ⟨wr.heap.size, 0, none⟩ = some (.int .i64 2) := (box_keep hown hgrow 0).trans (by simp)
        have x1 : w3.cell? ⟨wr.heap.size, 1, none⟩ = some (.int .i64 0) := (box_keep hown hgrow 1).trans (by simp)
        have x2 : w3.cell? ⟨wr.heap.size, 2, none⟩ = some (.int .i64 1) := (box_keep hown hgrow 2).trans (by simp)
        have hbel3 : Below w1.heap.size w1 w3 := hbel.trans R
        have hI3 := hI1.below hbel3
        have hn3 := (NO.out.below (((Below.refl _ wr).alloc (Nat.le_refl _) _).alloc (by simp) _)).grown hgrow (fun i hi e => by have h1 := X1.out i e.symm; have h2 := X2.out i hi; omega)
        have OW : Hid (w3.ownsRow w1.heap.size 43 3 v' (dn ++ [twoD b p q]).length (flatD ((dn ++ [twoD b p q]).map dZ))) := Lib.hid (by
          rw [List.map_append, flatD_append, List.length_append]
          simp only [List.map_cons, List.map_nil, ED.out]
          exact hown')
        have hs3 := R.size
        clear hgrow hown hbel hown' R
        go_wp2_with fail
        refine (done_empty _ _ _ _ 0 1 _ hI3 HT.out hn3 (lev_two p0 q0) (by simp)).mono ?_
        rintro e w4 ⟨ov, rfl, hov, hb4, hX4⟩
        rw [PQ.out] at hov
        have OW4 := Lib.hid (own_below OW.out hb4)
        have HX := Lib.hid hX4
        clear hX4
        go_wp2
        go_roundw
        case rel => exact ⟨k', twoP a b p q, twoQ b p q, dn ++ [twoD b p q], w3.heap.size, ST.out, OW4.out, hov, fun i hi => (OW.out.lt i hi).2, HX.out, hbel3.trans (hb4.mono (by omega))⟩
        case measure =>
          have M2 := own_sliceN OW4.out
          rw [List.length_append, List.length_singleton] at M2
          rw [M1.out, M2]
          omega
      · by_cases h2 : p = 0
        · have hb1' : ((q : Int) == (b : Int)) = false := by rw [beq_eq_false_iff_ne]; omega
          have hb2' : ((p : Int) == 0) = true := by rw [beq_iff_eq]; omega
          have ED : Hid (dZ (twoD b p q) = (1, 0, 0)) := Lib.hid (by simp [dZ, twoD, h1, h2])
          have PQ : Hid ([(p : Int), (q : Int)].set 0 ([(a : Int), (b : Int)].getD 0 0) = [(twoP a b p q : Int), (twoQ b p q : Int)]) := Lib.hid (by simp [twoP, twoQ, h1, h2])
          have H2 := Lib.hid h2
          clear h2
          go_wp2_with (at_builtin; refine wpList_append_own _ rfl _ _ 22 rfl w1.heap.size 43 i0 (.agg #[.int .i64 0, .int .i64 0, .int .i64 0]) 3 24 Try.underlying22 hi0 hz0 hz1 hz2 rfl (by decide) _ _ _ rfl ((hown.alloc _).alloc _) ⟨wr.heap.size + 1, 0, none⟩ 1 1 [.int .i64 1, .int .i64 0, .int .i64 0] rfl rfl (cell3_new _ _ _ _ _ (World.size_alloc _ _)) ?c2 ?c3 ?c4 ?c5 ?_)
          case c2 => intro u hu; simp at hu; rcases hu with rfl | rfl | rfl <;> rfl
          case c3 => unfold maxLen; omega
          case c4 => omega
          case c5 => simp; omega
          intro v' w3 hown' hgrow _
          have R : Below w1.heap.size wr w3 := below_append ((Below.refl _ wr).alloc (by omega) _) (by simp; omega) (hown.alloc _) hgrow
          have x0 : w3.cell? ⟨wr.heap.size, 0, none⟩ = some (.int .i64 1) := (box_keep hown hgrow 0).trans (by simp)
          have x1 : w3.cell? ⟨wr.heap.size, 1, none⟩ = some (.int .i64 0) := (box_keep hown hgrow 1).trans (by simp)
          have x2 : w3.cell? ⟨wr.heap.size, 2, none⟩ = some (.int .i64 0) := (box_keep hown hgrow 2).trans (by simp)
          have hbel3 : Below w1.heap.size w1 w3 := hbel.trans R
          have hI3 := hI1.below hbel3
          have hn3 := (NO.out.below (((Below.refl _ wr).alloc (Nat.le_refl _) _).alloc (by simp) _)).grown hgrow (fun i hi e => by have h1 := X1.out i e.symm; have h2 := X2.out i hi; omega)
          have OW : Hid (w3.ownsRow w1.heap.size 43 3 v' (dn ++ [twoD b p q]).length (flatD ((dn ++ [twoD b p q]).map dZ))) := Lib.hid (by
            rw [List.map_append, flatD_append, List.length_append]
            simp only [List.map_cons, List.map_nil, ED.out]
            exact hown')
          have hs3 := R.size
          clear hgrow hown hbel hown' R
          go_wp2_with fail
          refine (done_fill _ _ _ _ 0 0 _ hI3 HT.out hn3 (lev_two p0 q0) (by simp)).mono ?_
          rintro e w4 ⟨ov, rfl, hov, hb4, hX4⟩
          rw [PQ.out] at hov
          have OW4 := Lib.hid (own_below OW.out hb4)
          have HX := Lib.hid hX4
          clear hX4
          go_wp2
          go_roundw
          case rel => exact ⟨k', twoP a b p q, twoQ b p q, dn ++ [twoD b p q], w3.heap.size, ST.out, OW4.out, hov, fun i hi => (OW.out.lt i hi).2, HX.out, hbel3.trans (hb4.mono (by omega))⟩
          case measure =>
            have M2 := own_sliceN OW4.out
            rw [List.length_append, List.length_singleton] at M2
            rw [M1.out, M2]
            omega
        · have hb1' : ((q : Int) == (b : Int)) = false := by rw [beq_eq_false_iff_ne]; omega
          have hb2' : ((p : Int) == 0) = false := by rw [beq_eq_false_iff_ne]; omega
          have ED : Hid (dZ (twoD b p q) = (3, 0, 1)) := Lib.hid (by simp [dZ, twoD, h1, h2])
          have EM : min (p : Int) ((b : Int) - (q : Int)) = ((min p (b - q) : Nat) : Int) := by omega
          have PQ : Hid (pour [(p : Int), (q : Int)] 0 1 ([(p : Int), (q : Int)].getD 0 0) ([(p : Int), (q : Int)].getD 1 0) (min ([(p : Int), (q : Int)].getD 0 0) ([(a : Int), (b : Int)].getD 1 0 - [(p : Int), (q : Int)].getD 1 0)) = [(twoP a b p q : Int), (twoQ b p q : Int)]) := Lib.hid (by
            simp only [List.getD_cons_zero, List.getD_cons_succ, EM, pour, List.set_cons_zero, List.set_cons_succ, twoP, twoQ, h1, h2, if_false]
            congr 1
            · omega)
          clear EM
          go_wp2_with (at_builtin; refine wpList_append_own _ rfl _ _ 22 rfl w1.heap.size 43 i0 (.agg #[.int .i64 0, .int .i64 0, .int .i64 0]) 3 24 Try.underlying22 hi0 hz0 hz1 hz2 rfl (by decide) _ _ _ rfl ((hown.alloc _).alloc _) ⟨wr.heap.size + 1, 0, none⟩ 1 1 [.int .i64 3, .int .i64 0, .int .i64 1] rfl rfl (cell3_new _ _ _ _ _ (World.size_alloc _ _)) ?c2 ?c3 ?c4 ?c5 ?_)
          case c2 => intro u hu; simp at hu; rcases hu with rfl | rfl | rfl <;> rfl
          case c3 => unfold maxLen; omega
          case c4 => omega
          case c5 => simp; omega
          intro v' w3 hown' hgrow _
          have R : Below w1.heap.size wr w3 := below_append ((Below.refl _ wr).alloc (by omega) _) (by simp; omega) (hown.alloc _) hgrow
          have x0 : w3.cell? ⟨wr.heap.size, 0, none⟩ = some (.int .i64 3) := (box_keep hown hgrow 0).trans (by simp)
          have x1 : w3.cell? ⟨wr.heap.size, 1, none⟩ = some (.int .i64 0) := (box_keep hown hgrow 1).trans (by simp)
          have x2 : w3.cell? ⟨wr.heap.size, 2, none⟩ = some (.int .i64 1) := (box_keep hown hgrow 2).trans (by simp)
          have hbel3 : Below w1.heap.size w1 w3 := hbel.trans R
          have hI3 := hI1.below hbel3
          have hn3 := (NO.out.below (((Below.refl _ wr).alloc (Nat.le_refl _) _).alloc (by simp) _)).grown hgrow (fun i hi e => by have h1 := X1.out i e.symm; have h2 := X2.out i hi; omega)
          have OW : Hid (w3.ownsRow w1.heap.size 43 3 v' (dn ++ [twoD b p q]).length (flatD ((dn ++ [twoD b p q]).map dZ))) := Lib.hid (by
            rw [List.map_append, flatD_append, List.length_append]
            simp only [List.map_cons, List.map_nil, ED.out]
            exact hown')
          have hs3 := R.size
          clear hgrow hown hbel hown' R
          go_wp2_with fail
          refine (done_pour _ _ _ _ 0 1 _ hI3 HT.out hn3 (lev_two p0 q0) (by simp) (by simp) (by decide)).mono ?_
          rintro e w4 ⟨ov, rfl, hov, hb4, hX4⟩
          rw [PQ.out] at hov
          have OW4 := Lib.hid (own_below OW.out hb4)
          have HX := Lib.hid hX4
          clear hX4
          go_wp2
          go_roundw
          case rel => exact ⟨k', twoP a b p q, twoQ b p q, dn ++ [twoD b p q], w3.heap.size, ST.out, OW4.out, hov, fun i hi => (OW.out.lt i hi).2, HX.out, hbel3.trans (hb4.mono (by omega))⟩
          case measure =>
            have M2 := own_sliceN OW4.out
            rw [List.length_append, List.length_singleton] at M2
            rw [M1.out, M2]
            omega

end Go.Proofs.Ytikcpfpeoofppaa

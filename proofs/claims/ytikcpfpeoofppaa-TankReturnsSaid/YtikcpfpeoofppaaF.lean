/- Contracts: Two of both. -/
import Derived.Test.YtikcpfpeoofppaaTwo
import Derived.Test.YtikcpfpeoofppaaC
import Derived.Test.YtikcpfpeoofppaaD
import Derived.Test.YtikcpfpeoofppaaE
namespace Go.Proofs.Ytikcpfpeoofppaa
open Go.RowKit

theorem Try.infoDeed : (Try.prog.info? 43).map (fun i => (i.zero, i.size, i.bytes)) = some (some (.agg #[.int .i64 0, .int .i64 0, .int .i64 0]), 3, 24) := by kernel_rfl

def GivesDE (l : List Deed) (e0 : Int) (w : World) (e : Ending) (w' : World) : Prop := ∃ ov, e = .returned (.tuple #[ov, .int .i64 e0]) ∧ DeedsAt w' ov l ∧ Below w.heap.size w w'

/-- The levels' block. -/
structure LevAt (w : World) (L : Nat) (p q : Int) : Prop where
  c0 : w.cell? ⟨L, 0, none⟩ = some (.int .i64 p)
  c1 : w.cell? ⟨L, 1, none⟩ = some (.int .i64 q)
  c2 : w.cell? ⟨L, 2, none⟩ = some (.int .i64 0)
  c3 : w.cell? ⟨L, 3, none⟩ = some (.int .i64 0)
  f0 : w.frozen? ⟨L, 0, none⟩ = false
  f1 : w.frozen? ⟨L, 1, none⟩ = false
  f2 : w.frozen? ⟨L, 2, none⟩ = false
  f3 : w.frozen? ⟨L, 3, none⟩ = false

theorem LevAt.below {w w' : World} {L : Nat} {p q : Int} (h : LevAt w L p q) {B : Nat} (hb : Below B w w') (hB : L < B) : LevAt w' L p q :=
  ⟨(hb.cell (p := ⟨L, 0, none⟩) hB).trans h.c0, (hb.cell (p := ⟨L, 1, none⟩) hB).trans h.c1, (hb.cell (p := ⟨L, 2, none⟩) hB).trans h.c2, (hb.cell (p := ⟨L, 3, none⟩) hB).trans h.c3,
   (hb.frozen (p := ⟨L, 0, none⟩) hB).trans h.f0, (hb.frozen (p := ⟨L, 1, none⟩) hB).trans h.f1, (hb.frozen (p := ⟨L, 2, none⟩) hB).trans h.f2, (hb.frozen (p := ⟨L, 3, none⟩) hB).trans h.f3⟩

def sliceN (v : Value) : Nat := match v with | .slice _ n _ => n | _ => 0

theorem cell3_new {n : Nat} (w : World) (x y z : Value) (t : TypeId) (hn : w.heap.size = n) : ∀ j u, [x, y, z][j]? = some u → (w.alloc (.cells #[x, y, z] t)).cell? ((⟨n, 0, none⟩ : Addr).add j) = some u := by
  subst hn
  intro j u hj
  match j, hj with
  | 0, hj => simp at hj; subst hj; simp [Addr.add]
  | 1, hj => simp at hj; subst hj; simp [Addr.add]
  | 2, hj => simp at hj; subst hj; simp [Addr.add]

theorem own_below {w w' : World} {B : Nat} {e : TypeId} {size n : Nat} {v : Value} {xs : List Value} (h : w.ownsRow B e size v n xs) (hb : Below w.heap.size w w') : w'.ownsRow B e size v n xs := by
  refine ⟨h.1, ?_⟩
  rcases h.2 with hn | ⟨g, cap, cur, rfl, hg, hh, r⟩
  · exact .inl hn
  · exact .inr ⟨g, cap, cur, rfl, hg, (hb.block g (Array.getElem?_eq_some_iff.1 hh).1).trans hh, r⟩

/-- A box that was made ahead of an append lies behind it as it did. -/
theorem box_keep {w w3 : World} {D o : Obj} {B : Nat} {e : TypeId} {size n : Nat} {v : Value} {xs : List Value} (hown : w.ownsRow B e size v n xs) (hg : ((w.alloc D).alloc o).grownBy w3 v.ownBlock) (i : Nat) :
    w3.cell? ⟨w.heap.size, i, none⟩ = (w.alloc D).cell? ⟨w.heap.size, i, none⟩ := by
  have h1 : w3.cell? ⟨w.heap.size, i, none⟩ = ((w.alloc D).alloc o).cell? ⟨w.heap.size, i, none⟩ :=
    World.cell?_of_block (hg.block _ (by simp; omega) (fun e => by have := (hown.lt _ e.symm).2; simp only at this; omega))
  rw [h1]
  exact ((Below.refl (w.alloc D).heap.size (w.alloc D)).alloc (Nat.le_refl _) o).cell (p := ⟨w.heap.size, i, none⟩) (by simp)

theorem own_sliceN {w : World} {B : Nat} {e : TypeId} {size n : Nat} {v : Value} {xs : List Value} (h : w.ownsRow B e size v n xs) : sliceN v = n := by
  rcases h.2 with ⟨rfl, rfl⟩ | ⟨g, cap, cur, rfl, _⟩ <;> rfl

theorem own_stored {w : World} {B L : Nat} {e : TypeId} {size n : Nat} {v : Value} {xs : List Value} (h : w.ownsRow B e size v n xs) (hL : L < B) (x y z u : Value) :
    ((((w.setCell ⟨L, 0, none⟩ x).setCell ⟨L, 1, none⟩ y).setCell ⟨L, 2, none⟩ z).setCell ⟨L, 3, none⟩ u).ownsRow B e size v n xs :=
  ownsRow_setCell_below (ownsRow_setCell_below (ownsRow_setCell_below (ownsRow_setCell_below h hL x) hL y) hL z) hL u

theorem below_stored {w w' : World} {B L : Nat} (h : Below B w w') (hL : B ≤ L) (x y z u : Value) :
    Below B w ((((w'.setCell ⟨L, 0, none⟩ x).setCell ⟨L, 1, none⟩ y).setCell ⟨L, 2, none⟩ z).setCell ⟨L, 3, none⟩ u) :=
  (((h.setCell hL _).setCell hL _).setCell hL _).setCell hL _

theorem LevAt.stored {w : World} {L : Nat} {p q : Int} (h : LevAt w L p q) (p' q' : Int) :
    LevAt ((((w.setCell ⟨L, 0, none⟩ (.int .i64 p')).setCell ⟨L, 1, none⟩ (.int .i64 q')).setCell ⟨L, 2, none⟩ (.int .i64 0)).setCell ⟨L, 3, none⟩ (.int .i64 0)) L p' q' := by
  obtain ⟨c0, c1, c2, c3, f0, f1, f2, f3⟩ := h
  constructor <;> simp [go_sem, c0, c1, c2, c3, f0, f1, f2, f3]

theorem tvl_two {a b : Nat} (ha : 1 ≤ a ∧ a ≤ 12) (hb : 1 ≤ b ∧ b ≤ 12) : Tvl [(a : Int), (b : Int)] :=
  ⟨by simp, by simp, fun n hn => by simp at hn; omega⟩



set_option maxRecDepth 100000 in
set_option maxHeartbeats 2000000 in
theorem tTwo_main (a b n : Nat) (w : World) (ha : 1 ≤ a ∧ a ≤ 12) (hb : 1 ≤ b ∧ b ≤ 12) (hn : n ≤ b) (hd : n % gcl [(a : Int), (b : Int)] = 0) :
    Calls Try.prog 17 #[.int .i64 a, .int .i64 b, .int .i64 n] w (GivesDE ((twoT a b n).map dZ) 0 w) := by
  have hT := tvl_two ha hb
  have hg := hT.gcl_pos
  have hgb : gcl [(a : Int), (b : Int)] = Nat.gcd a b := by simp [gcl]
  have hS := Lib.hid (TwoSt.start ha hb hn (by rw [← hgb]; exact hd))
  have hV : Hid (tvl [(a : Int), (b : Int)] = true) := Lib.hid ((tvl_iff _).2 hT)
  have hB : Hid (betw 0 (n : Int) (b : Int) = true) := Lib.hid ((betw_iff _ _ _).2 ⟨by omega, by omega⟩)
  have hI := ints_two w a b 3
  have hal : Below w.heap.size w (w.alloc (.cells #[.int .i64 a, .int .i64 b] 3)) := (Below.refl _ w).alloc (Nat.le_refl _) _
  have hm : ((n : Int) % ((gcl [(a : Int), (b : Int)] : Nat) : Int) != 0) = false := by
    rw [bne_eq_false_iff_eq, ← Int.natCast_emod, hd]; rfl
  have hM := fun W v (h : IntsAt W v [(a : Int), (b : Int)]) => measure_any v _ W h hT
  generalize gcl [(a : Int), (b : Int)] = G at *
  obtain ⟨i0, hi0, hz0, hz1, hz2⟩ := info_parts Try.infoDeed
  have HM := Lib.hid hM
  have HI := Lib.hid hI
  clear hM hI hgb hT hd
  go_enter Try.func17, Try.ntmps17
  go_wp2_with fail
  refine (valid_any _ _ _ HI.out).mono ?_
  rintro e w' ⟨rfl, rfl⟩
  rw [hV.out]
  go_wp2_with fail
  refine (between_any _ _ _ _).mono ?_
  rintro e w' ⟨rfl, rfl⟩
  rw [hB.out]
  go_wp2_with fail
  refine (HM.out _ _ HI.out).mono ?_
  rintro e w1 ⟨rfl, hb1⟩
  have hI1 := HI.out.below hb1
  have hb0 := below_trans hal hb1
  clear hal hb1
  go_wp2
  go_loopw [9] (fun o wr => ∃ (k p q : Nat) (dn : List (Nat × Nat × Nat)), TwoSt a b n k p q dn ∧ wr.ownsRow (w1.heap.size + 1) 43 3 o dn.length (flatD (dn.map dZ)) ∧ LevAt wr w1.heap.size p q ∧ Below w1.heap.size w1 wr) (fun o _ => 64 - sliceN o)
  case atStart => exact ⟨64, 0, 0, [], hS.out, World.ownsRow_nil _ _ _ _, ⟨by simp, by simp, by simp, by simp, by simp, by simp, by simp, by simp⟩, (Below.refl _ _).alloc (Nat.le_refl _) _⟩
  case round =>
    obtain ⟨k, p, q, dn, St, hown, LV, hbel⟩ := hrel
    have q0 := St.q0
    have p0 := St.p0
    by_cases hq : q = n
    · subst hq
      have T := Lib.hid St.stop
      obtain ⟨c0, c1, c2, c3, f0, f1, f2, f3⟩ := LV
      have hL : ((dn.map dZ).length : Nat) = dn.length := List.length_map _
      have hd64 : dn.length ≤ 64 := by have := St.len; omega
      have DD := Lib.hid (own_deeds (l := dn.map dZ) (by rw [hL]; exact hown) (by omega))
      clear hL
      go_wp2
      go_ret2
      exact ⟨_, rfl, by rw [T.out]; exact DD.out, below_trans hb0 hbel⟩
    · have hne : ((q : Int) != (n : Int)) = true := by rw [bne_iff_ne]; omega
      obtain ⟨k', hk, St2⟩ := St.next hq
      have ST := Lib.hid St2
      have hlen : dn.length ≤ 63 := by have := St.len; omega
      have hLk := World.block_lt_of_cell? _ _ LV.c0
      simp only at hLk
      have LV' := Lib.hid LV
      have M1 := Lib.hid (own_sliceN hown)
      clear hk St2 St
      by_cases h1 : q = b
      · have hb1' : ((q : Int) == (b : Int)) = true := by rw [beq_iff_eq]; omega
        have ED : Hid (dZ (twoD b p q) = (2, 0, 1)) := Lib.hid (by simp [dZ, twoD, h1])
        have EP : Hid ((twoP a b p q : Int) = p) := Lib.hid (by simp only [twoP, h1, if_true])
        have EQ : Hid ((twoQ b p q : Int) = 0) := Lib.hid (by simp only [twoQ, h1, if_true]; rfl)
        have QV : Hid (levV (p : Int) 0 0 0 = .agg #[.int .i64 (twoP a b p q : Nat), .int .i64 (twoQ b p q : Nat), .int .i64 0, .int .i64 0]) := Lib.hid (by unfold levV; rw [EP.out, EQ.out])
        have H1 := Lib.hid h1
        clear h1
        obtain ⟨c0, c1, c2, c3, f0, f1, f2, f3⟩ := LV
        go_wp2_with (at_builtin; refine wpList_append_own _ rfl _ _ 22 rfl (w1.heap.size + 1) 43 i0 (.agg #[.int .i64 0, .int .i64 0, .int .i64 0]) 3 24 Try.underlying22 hi0 hz0 hz1 hz2 rfl (by decide) _ _ _ rfl ((hown.alloc _).alloc _) ⟨wr.heap.size + 1, 0, none⟩ 1 1 [.int .i64 2, .int .i64 0, .int .i64 1] rfl rfl (cell3_new _ _ _ _ _ (World.size_alloc _ _)) ?c2 ?c3 ?c4 ?c5 ?_)
        case c2 => intro u hu; simp at hu; rcases hu with rfl | rfl | rfl <;> rfl
        case c3 => unfold maxLen; omega
        case c4 => omega
        case c5 => simp; omega
        intro v' w3 hown' hgrow _
        have R : Below (w1.heap.size + 1) wr w3 := below_append ((Below.refl _ wr).alloc (by omega) _) (by simp; omega) (hown.alloc _) hgrow
        have x0 : w3.cell? ⟨wr.heap.size, 0, none⟩ = some (.int .i64 2) := (box_keep hown hgrow 0).trans (by simp)
        have x1 : w3.cell? ⟨wr.heap.size, 1, none⟩ = some (.int .i64 0) := (box_keep hown hgrow 1).trans (by simp)
        have x2 : w3.cell? ⟨wr.heap.size, 2, none⟩ = some (.int .i64 1) := (box_keep hown hgrow 2).trans (by simp)
        have LV3 := LV'.out.below R (by omega)
        have hbel3 : Below w1.heap.size w1 w3 := hbel.trans (R.mono (by omega))
        have hI3 := hI1.below hbel3
        have OW : Hid (w3.ownsRow (w1.heap.size + 1) 43 3 v' (dn ++ [twoD b p q]).length (flatD ((dn ++ [twoD b p q]).map dZ))) := Lib.hid (by
          rw [List.map_append, flatD_append, List.length_append]
          simp only [List.map_cons, List.map_nil, ED.out]
          exact hown')
        have hL3 := World.block_lt_of_cell? _ _ LV3.c0
        simp only at hL3
        have LV3' := Lib.hid LV3
        clear hgrow hown hbel hown' R c0 c1 c2 c3 f0 f1 f2 f3
        obtain ⟨c0, c1, c2, c3, f0, f1, f2, f3⟩ := LV3
        go_wp2_with fail
        refine (does_empty1 _ p q 0 0 _).mono ?_
        rintro e w4 ⟨rfl, hb4⟩
        have LV4 := LV3'.out.below hb4 hL3
        have OW4 := Lib.hid (own_below OW.out hb4)
        have LV5 := Lib.hid (LV4.stored (twoP a b p q) (twoQ b p q))
        obtain ⟨k0, k1, k2, k3, g0, g1, g2, g3⟩ := LV4
        rw [QV.out]
        go_wp2
        go_roundw
        case rel => exact ⟨k', twoP a b p q, twoQ b p q, dn ++ [twoD b p q], ST.out, own_stored OW4.out (by omega) _ _ _ _, LV5.out, below_stored (hbel3.trans (hb4.mono (by omega))) (Nat.le_refl _) _ _ _ _⟩
        case measure =>
          have M2 := own_sliceN OW4.out
          rw [List.length_append, List.length_singleton] at M2
          rw [M1.out, M2]
          omega
      · by_cases h2 : p = 0
        · have hb1' : ((q : Int) == (b : Int)) = false := by rw [beq_eq_false_iff_ne]; omega
          have hb2' : ((p : Int) == 0) = true := by rw [beq_iff_eq]; omega
          have ED : Hid (dZ (twoD b p q) = (1, 0, 0)) := Lib.hid (by simp [dZ, twoD, h1, h2])
          have EP : Hid ((twoP a b p q : Int) = a) := Lib.hid (by simp only [twoP, h1, h2, if_false, if_true])
          have EQ : Hid ((twoQ b p q : Int) = q) := Lib.hid (by simp only [twoQ, h1, h2, if_false, if_true])
          have QV : Hid (levV (a : Int) (q : Int) 0 0 = .agg #[.int .i64 (twoP a b p q : Nat), .int .i64 (twoQ b p q : Nat), .int .i64 0, .int .i64 0]) := Lib.hid (by unfold levV; rw [EP.out, EQ.out])
          have H2 := Lib.hid h2
          clear h2
          obtain ⟨c0, c1, c2, c3, f0, f1, f2, f3⟩ := LV
          go_wp2_with (at_builtin; refine wpList_append_own _ rfl _ _ 22 rfl (w1.heap.size + 1) 43 i0 (.agg #[.int .i64 0, .int .i64 0, .int .i64 0]) 3 24 Try.underlying22 hi0 hz0 hz1 hz2 rfl (by decide) _ _ _ rfl ((hown.alloc _).alloc _) ⟨wr.heap.size + 1, 0, none⟩ 1 1 [.int .i64 1, .int .i64 0, .int .i64 0] rfl rfl (cell3_new _ _ _ _ _ (World.size_alloc _ _)) ?c2 ?c3 ?c4 ?c5 ?_)
          case c2 => intro u hu; simp at hu; rcases hu with rfl | rfl | rfl <;> rfl
          case c3 => unfold maxLen; omega
          case c4 => omega
          case c5 => simp; omega
          intro v' w3 hown' hgrow _
          have R : Below (w1.heap.size + 1) wr w3 := below_append ((Below.refl _ wr).alloc (by omega) _) (by simp; omega) (hown.alloc _) hgrow
          have x0 : w3.cell? ⟨wr.heap.size, 0, none⟩ = some (.int .i64 1) := (box_keep hown hgrow 0).trans (by simp)
          have x1 : w3.cell? ⟨wr.heap.size, 1, none⟩ = some (.int .i64 0) := (box_keep hown hgrow 1).trans (by simp)
          have x2 : w3.cell? ⟨wr.heap.size, 2, none⟩ = some (.int .i64 0) := (box_keep hown hgrow 2).trans (by simp)
          have LV3 := LV'.out.below R (by omega)
          have hbel3 : Below w1.heap.size w1 w3 := hbel.trans (R.mono (by omega))
          have hI3 := hI1.below hbel3
          have OW : Hid (w3.ownsRow (w1.heap.size + 1) 43 3 v' (dn ++ [twoD b p q]).length (flatD ((dn ++ [twoD b p q]).map dZ))) := Lib.hid (by
            rw [List.map_append, flatD_append, List.length_append]
            simp only [List.map_cons, List.map_nil, ED.out]
            exact hown')
          have hL3 := World.block_lt_of_cell? _ _ LV3.c0
          simp only at hL3
          have LV3' := Lib.hid LV3
          clear hgrow hown hbel hown' R c0 c1 c2 c3 f0 f1 f2 f3
          obtain ⟨c0, c1, c2, c3, f0, f1, f2, f3⟩ := LV3
          go_wp2_with fail
          refine (does_fill0 _ _ p q 0 0 a _ hI3 (by simp) rfl).mono ?_
          rintro e w4 ⟨rfl, hb4⟩
          have LV4 := LV3'.out.below hb4 hL3
          have OW4 := Lib.hid (own_below OW.out hb4)
          have LV5 := Lib.hid (LV4.stored (twoP a b p q) (twoQ b p q))
          obtain ⟨k0, k1, k2, k3, g0, g1, g2, g3⟩ := LV4
          rw [QV.out]
          go_wp2
          go_roundw
          case rel => exact ⟨k', twoP a b p q, twoQ b p q, dn ++ [twoD b p q], ST.out, own_stored OW4.out (by omega) _ _ _ _, LV5.out, below_stored (hbel3.trans (hb4.mono (by omega))) (Nat.le_refl _) _ _ _ _⟩
          case measure =>
            have M2 := own_sliceN OW4.out
            rw [List.length_append, List.length_singleton] at M2
            rw [M1.out, M2]
            omega
        · have hb1' : ((q : Int) == (b : Int)) = false := by rw [beq_eq_false_iff_ne]; omega
          have hb2' : ((p : Int) == 0) = false := by rw [beq_eq_false_iff_ne]; omega
          have ED : Hid (dZ (twoD b p q) = (3, 0, 1)) := Lib.hid (by simp [dZ, twoD, h1, h2])
          have EP : Hid ((twoP a b p q : Int) = p - ((min p (b - q) : Nat) : Int)) := Lib.hid (by simp only [twoP, h1, h2, if_false]; omega)
          have EQ : Hid ((twoQ b p q : Int) = q + ((min p (b - q) : Nat) : Int)) := Lib.hid (by simp only [twoQ, h1, h2, if_false]; omega)
          have QV : Hid (levV ((p : Int) - ((min p (b - q) : Nat) : Int)) ((q : Int) + ((min p (b - q) : Nat) : Int)) 0 0 = .agg #[.int .i64 (twoP a b p q : Nat), .int .i64 (twoQ b p q : Nat), .int .i64 0, .int .i64 0]) := Lib.hid (by unfold levV; rw [EP.out, EQ.out])
          obtain ⟨c0, c1, c2, c3, f0, f1, f2, f3⟩ := LV
          go_wp2_with (at_builtin; refine wpList_append_own _ rfl _ _ 22 rfl (w1.heap.size + 1) 43 i0 (.agg #[.int .i64 0, .int .i64 0, .int .i64 0]) 3 24 Try.underlying22 hi0 hz0 hz1 hz2 rfl (by decide) _ _ _ rfl ((hown.alloc _).alloc _) ⟨wr.heap.size + 1, 0, none⟩ 1 1 [.int .i64 3, .int .i64 0, .int .i64 1] rfl rfl (cell3_new _ _ _ _ _ (World.size_alloc _ _)) ?c2 ?c3 ?c4 ?c5 ?_)
          case c2 => intro u hu; simp at hu; rcases hu with rfl | rfl | rfl <;> rfl
          case c3 => unfold maxLen; omega
          case c4 => omega
          case c5 => simp; omega
          intro v' w3 hown' hgrow _
          have R : Below (w1.heap.size + 1) wr w3 := below_append ((Below.refl _ wr).alloc (by omega) _) (by simp; omega) (hown.alloc _) hgrow
          have x0 : w3.cell? ⟨wr.heap.size, 0, none⟩ = some (.int .i64 3) := (box_keep hown hgrow 0).trans (by simp)
          have x1 : w3.cell? ⟨wr.heap.size, 1, none⟩ = some (.int .i64 0) := (box_keep hown hgrow 1).trans (by simp)
          have x2 : w3.cell? ⟨wr.heap.size, 2, none⟩ = some (.int .i64 1) := (box_keep hown hgrow 2).trans (by simp)
          have LV3 := LV'.out.below R (by omega)
          have hbel3 : Below w1.heap.size w1 w3 := hbel.trans (R.mono (by omega))
          have hI3 := hI1.below hbel3
          have OW : Hid (w3.ownsRow (w1.heap.size + 1) 43 3 v' (dn ++ [twoD b p q]).length (flatD ((dn ++ [twoD b p q]).map dZ))) := Lib.hid (by
            rw [List.map_append, flatD_append, List.length_append]
            simp only [List.map_cons, List.map_nil, ED.out]
            exact hown')
          have hL3 := World.block_lt_of_cell? _ _ LV3.c0
          simp only at hL3
          have LV3' := Lib.hid LV3
          clear hgrow hown hbel hown' R c0 c1 c2 c3 f0 f1 f2 f3
          obtain ⟨c0, c1, c2, c3, f0, f1, f2, f3⟩ := LV3
          go_wp2_with fail
          refine (does_pour01 _ _ p q 0 0 b ((min p (b - q) : Nat) : Int) _ hI3 (by simp) (by omega) (by omega) (by omega) rfl (by omega)).mono ?_
          rintro e w4 ⟨rfl, hb4⟩
          have LV4 := LV3'.out.below hb4 hL3
          have OW4 := Lib.hid (own_below OW.out hb4)
          have LV5 := Lib.hid (LV4.stored (twoP a b p q) (twoQ b p q))
          obtain ⟨k0, k1, k2, k3, g0, g1, g2, g3⟩ := LV4
          rw [QV.out]
          go_wp2
          go_roundw
          case rel => exact ⟨k', twoP a b p q, twoQ b p q, dn ++ [twoD b p q], ST.out, own_stored OW4.out (by omega) _ _ _ _, LV5.out, below_stored (hbel3.trans (hb4.mono (by omega))) (Nat.le_refl _) _ _ _ _⟩
          case measure =>
            have M2 := own_sliceN OW4.out
            rw [List.length_append, List.length_singleton] at M2
            rw [M1.out, M2]
            omega

end Go.Proofs.Ytikcpfpeoofppaa

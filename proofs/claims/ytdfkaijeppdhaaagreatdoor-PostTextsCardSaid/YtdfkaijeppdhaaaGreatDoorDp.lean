/- Four new posts of the program and of the reference (Post). -/
import Derived.Test.YtdfkaijeppdhaaaGreatDoorDl
import Derived.Deep.RegionWith
import Derived.Deep.RegionLaw
namespace Go.Proofs.YtdfkaijeppdhaaaGreatDoor
open Go.RowKit Go.Shelf

def pv (a : Nat) (P : Nat → Nat) (j : Nat) : Value := if j < a then .pointer (some ⟨P j, 0, none⟩) else .pointer none
def ArrTo (w : World) (g : Nat) (t : TypeId) (a : Nat) (P : Nat → Nat) : Prop := w.heap[g]? = some (.cells #[pv a P 0, pv a P 1, pv a P 2, pv a P 3] t (0, 0))
theorem ArrTo.cell {w : World} {g : Nat} {t : TypeId} {a : Nat} {P : Nat → Nat} (h : ArrTo w g t a P) {j : Nat} (hj : j < 4) : w.cell? ⟨g, j, none⟩ = some (pv a P j) := by
  rcases (show j = 0 ∨ j = 1 ∨ j = 2 ∨ j = 3 by omega) with rfl | rfl | rfl | rfl <;> exact heap_cell h rfl
theorem ArrTo.frozen {w : World} {g : Nat} {t : TypeId} {a : Nat} {P : Nat → Nat} (h : ArrTo w g t a P) (j : Nat) : w.frozen? ⟨g, j, none⟩ = false := by
  have h9 : w.heap[g]? = _ := h
  simp [World.frozen?, h9]
theorem ArrTo.set {w : World} {g : Nat} {t : TypeId} {a : Nat} {P : Nat → Nat} (h : ArrTo w g t a P) (ha : a < 4) (x : Nat) : ArrTo (w.setCell ⟨g, a, none⟩ (.pointer (some ⟨x, 0, none⟩))) g t (a + 1) (upN P a x) := by
  unfold ArrTo
  rw [setCell_four h]
  congr 1
  unfold pv upN
  rcases (show a = 0 ∨ a = 1 ∨ a = 2 ∨ a = 3 by omega) with rfl | rfl | rfl | rfl <;> simp
theorem ArrTo.keep {w w' : World} {g : Nat} {t : TypeId} {a : Nat} {P : Nat → Nat} (h : ArrTo w g t a P) (hk : w'.heap[g]? = w.heap[g]?) : ArrTo w' g t a P := hk.trans h
theorem ArrTo.lt {w : World} {g : Nat} {t : TypeId} {a : Nat} {P : Nat → Nat} (h : ArrTo w g t a P) : g < w.heap.size := (Array.getElem?_eq_some_iff.1 h).1
/-- The arrays that are being filled, and the results. -/
structure PoS (w : World) (a : Nat) (P : Nat → Nat) (b : Nat) (R : Nat → Nat) (wr : World) : Prop where
  arrP : ArrTo wr (w.heap.size + 2) 45 a P
  arrR : ArrTo wr (w.heap.size + 3) 47 b R
  res1 : wr.heap[w.heap.size]? = some (.cells #[.pointer none, .pointer none, .pointer none, .pointer none] 45 (0, 0))
  res2 : wr.heap[w.heap.size + 1]? = some (.cells #[.pointer none, .pointer none, .pointer none, .pointer none] 47 (0, 0))
  below : Below w.heap.size w wr
theorem PoS.more {w : World} {a : Nat} {P : Nat → Nat} {b : Nat} {R : Nat → Nat} {wr w' : World} (h : PoS w a P b R wr) (hb : Below wr.heap.size wr w') : PoS w a P b R w' :=
  ⟨h.arrP.keep (hb.block _ h.arrP.lt), h.arrR.keep (hb.block _ h.arrR.lt), (hb.block _ (Array.getElem?_eq_some_iff.1 h.res1).1).trans h.res1, (hb.block _ (Array.getElem?_eq_some_iff.1 h.res2).1).trans h.res2, h.below.trans (hb.mono h.below.size)⟩
theorem PoS.setP {w : World} {a : Nat} {P : Nat → Nat} {b : Nat} {R : Nat → Nat} {wr : World} (h : PoS w a P b R wr) (ha : a < 4) (x : Nat) : PoS w (a + 1) (upN P a x) b R (wr.setCell ⟨w.heap.size + 2, a, none⟩ (.pointer (some ⟨x, 0, none⟩))) :=
  ⟨h.arrP.set ha x, h.arrR.keep (Below.heap_setCell _ _ _ _ (by simp)), (Below.heap_setCell _ _ _ _ (by simp)).trans h.res1, (Below.heap_setCell _ _ _ _ (by simp)).trans h.res2, h.below.setCell (p := ⟨w.heap.size + 2, a, none⟩) (by simp) _⟩
theorem PoS.setR {w : World} {a : Nat} {P : Nat → Nat} {b : Nat} {R : Nat → Nat} {wr : World} (h : PoS w a P b R wr) (hb : b < 4) (x : Nat) : PoS w a P (b + 1) (upN R b x) (wr.setCell ⟨w.heap.size + 3, b, none⟩ (.pointer (some ⟨x, 0, none⟩))) :=
  ⟨h.arrP.keep (Below.heap_setCell _ _ _ _ (by simp)), h.arrR.set hb x, (Below.heap_setCell _ _ _ _ (by simp)).trans h.res1, (Below.heap_setCell _ _ _ _ (by simp)).trans h.res2, h.below.setCell (p := ⟨w.heap.size + 3, b, none⟩) (by simp) _⟩
theorem DuoL.setX {base : Nat} {w : World} {m r : Nat} {P n R k : Nat → Nat} {B C : Nat → Book} {X : List Nat} (h : DuoL base w X m P n B r R k C) {g : Nat} (hg : g ∈ X) (j : Nat) (v : Value) : DuoL base (w.setCell ⟨g, j, none⟩ v) X m P n B r R k C :=
  h.aside hg (by rw [World.size_setCell]; exact Nat.le_refl _) fun k _ hk => Below.heap_setCell _ _ _ k hk
theorem DuoL.drewn {base : Nat} {w : World} {m r : Nat} {P n R k : Nat → Nat} {B C : Nat → Book} {X : List Nat} (h : DuoL base w X m P n B r R k C) : DuoL base w.drew X m P n B r R k C := h.below (Below.refl _ _).drew
def idN : Nat → Nat := fun j => j
def empN : Nat → Book := fun _ => empB
theorem up_id (i : Nat) : upN idN i i = idN := by funext j; unfold upN idN; split <;> simp_all
theorem up_emp (i : Nat) : upN empN i empB = empN := by funext j; unfold upN empN; split <;> rfl
def X4 (z : Nat) : List Nat := [z + 3, z + 2, z + 1, z]
theorem x4_0 (z : Nat) : z ∈ X4 z := by simp [X4]
theorem x4_1 (z : Nat) : z + 1 ∈ X4 z := by simp [X4]
def PostsPost (w : World) (e : Ending) (w' : World) : Prop := ∃ P R : Nat → Nat, e = .returned (.tuple #[.agg #[.pointer (some ⟨P 0, 0, none⟩), .pointer (some ⟨P 1, 0, none⟩), .pointer (some ⟨P 2, 0, none⟩), .pointer (some ⟨P 3, 0, none⟩)], .agg #[.pointer (some ⟨R 0, 0, none⟩), .pointer (some ⟨R 1, 0, none⟩), .pointer (some ⟨R 2, 0, none⟩), .pointer (some ⟨R 3, 0, none⟩)], .bool true]) ∧
  DuoL w.heap.size w' (X4 w.heap.size) 4 P idN empN 4 R idN empN ∧ Below w.heap.size w w'
def nil4 (t : TypeId) : Obj := .cells #[.pointer none, .pointer none, .pointer none, .pointer none] t
theorem posts_start (w : World) (hV : Vars w) : DuoL w.heap.size ((((w.alloc (nil4 45)).alloc (nil4 47)).alloc (nil4 45)).alloc (nil4 47)) (X4 w.heap.size) 0 (fun _ => 0) idN empN 0 (fun _ => 0) idN empN ∧
    PoS w 0 (fun _ => 0) 0 (fun _ => 0) ((((w.alloc (nil4 45)).alloc (nil4 47)).alloc (nil4 45)).alloc (nil4 47)) := by
  have h := ((((Duo.nil hV (fun _ => 0) idN empN (fun _ => 0) idN empN).alloc (nil4 45)).alloc (nil4 47)).alloc (nil4 45)).alloc (nil4 47)
  simp only [World.size_alloc] at h
  obtain ⟨w1, hw1⟩ : ∃ w1, w1 = w.alloc (nil4 45) := ⟨_, rfl⟩
  have z1 : w1.heap.size = w.heap.size + 1 := by rw [hw1, World.size_alloc]
  have a1 : w1.heap[w.heap.size]? = some (.cells #[.pointer none, .pointer none, .pointer none, .pointer none] 45 (0, 0)) := by rw [hw1]; exact World.alloc_heap_new w _
  obtain ⟨w2, hw2⟩ : ∃ w2, w2 = w1.alloc (nil4 47) := ⟨_, rfl⟩
  have z2 : w2.heap.size = w.heap.size + 2 := by rw [hw2, World.size_alloc, z1]
  have a2 : w2.heap[w.heap.size + 1]? = some (.cells #[.pointer none, .pointer none, .pointer none, .pointer none] 47 (0, 0)) := by rw [hw2, ← z1]; exact World.alloc_heap_new w1 _
  have b1 : Below w1.heap.size w1 w2 := by rw [hw2]; exact (Below.refl _ _).alloc (Nat.le_refl _) _
  obtain ⟨w3, hw3⟩ : ∃ w3, w3 = w2.alloc (nil4 45) := ⟨_, rfl⟩
  have z3 : w3.heap.size = w.heap.size + 3 := by rw [hw3, World.size_alloc, z2]
  have a3 : w3.heap[w.heap.size + 2]? = some (.cells #[.pointer none, .pointer none, .pointer none, .pointer none] 45 (0, 0)) := by rw [hw3, ← z2]; exact World.alloc_heap_new w2 _
  have b2 : Below w2.heap.size w2 w3 := by rw [hw3]; exact (Below.refl _ _).alloc (Nat.le_refl _) _
  obtain ⟨w4, hw4⟩ : ∃ w4, w4 = w3.alloc (nil4 47) := ⟨_, rfl⟩
  have a4 : w4.heap[w.heap.size + 3]? = some (.cells #[.pointer none, .pointer none, .pointer none, .pointer none] 47 (0, 0)) := by rw [hw4, ← z3]; exact World.alloc_heap_new w3 _
  have b3 : Below w3.heap.size w3 w4 := by rw [hw4]; exact (Below.refl _ _).alloc (Nat.le_refl _) _
  have b0 : Below w.heap.size w w1 := by rw [hw1]; exact (Below.refl _ _).alloc (Nat.le_refl _) _
  rw [← hw1, ← hw2, ← hw3, ← hw4] at h ⊢
  refine ⟨h, ?_, a4, ?_, ?_, below_trans b0 (below_trans b1 (below_trans b2 b3))⟩
  · exact (b3.block _ (by omega)).trans a3
  · exact (b3.block _ (by omega)).trans ((b2.block _ (by omega)).trans ((b1.block _ (by omega)).trans a1))
  · exact (b3.block _ (by omega)).trans ((b2.block _ (by omega)).trans a2)
set_option maxRecDepth 100000 in
set_option maxHeartbeats 8000000 in
theorem posts_any (w : World) (hV : Vars w) : Calls Tryz.prog 26 #[] w (PostsPost w) := by
  obtain ⟨hs1, hs2⟩ := posts_start w hV
  obtain ⟨w4, hw4⟩ : ∃ w4, w4 = ((((w.alloc (nil4 45)).alloc (nil4 47)).alloc (nil4 45)).alloc (nil4 47)) := ⟨_, rfl⟩
  rw [← hw4] at hs1 hs2
  have HD0 := Lib.hid hs1
  have HP0 := Lib.hid hs2
  unfold nil4 at hw4
  have HW4 := Lib.hid hw4
  clear hs1 hs2 hw4 hV
  go_enter Tryz.func26, Tryz.ntmps26
  go_wp2_with fail
  rw [← HW4.out]
  go_loopw [5] (fun i wr => ∃ (k : Nat) (P R : Nat → Nat), k ≤ 4 ∧ i = .int .i64 k ∧ Hid (DuoL w.heap.size wr (X4 w.heap.size) k P idN empN k R idN empN) ∧ Hid (PoS w k P k R wr)) (fun i _ => 4 - (intOf i).toNat)
  case atStart => exact ⟨0, _, _, by omega, rfl, HD0, HP0⟩
  case round =>
    obtain ⟨k, P, R, hk, rfl, HD, HP⟩ := hrel
    by_cases hlt : k < 4
    · have hlt2 : (k : Int) < 4 := by omega
      have hge : (0 : Int) ≤ (k : Int) := by omega
      have HN := Lib.hid (new_d HD.out (m' := k + 1) (i := k) (fun j hj => by omega) k hlt)
      rw [up_id, up_emp] at HN
      go_wp2_with fail
      refine HN.out.mono ?_
      rintro e w5 ⟨P', rfl, hd5, hb5⟩
      have HD5 := Lib.hid hd5
      have HP5 := Lib.hid (HP.out.more hb5)
      have cP := HP5.out.arrP.cell hlt
      have fP := HP5.out.arrP.frozen k
      have cR := HP5.out.arrR.cell hlt
      have fR := HP5.out.arrR.frozen k
      rw [show pv k P k = .pointer none by unfold pv; rw [if_neg (Nat.lt_irrefl k)]] at cP
      rw [show pv k R k = .pointer none by unfold pv; rw [if_neg (Nat.lt_irrefl k)]] at cR
      have hd5d := HD5.out.below (Below.refl w5.heap.size w5).drew
      have hp5d := HP5.out.more (Below.refl w5.heap.size w5).drew
      have HNA := Lib.hid (rnew_d hd5d (r' := k + 1) (j := k) (fun j hj => by omega) k hlt)
      have HPB := Lib.hid (hp5d.setP hlt P')
      have hd5b := hd5d.setX (g := w.heap.size + 2) (by unfold X4; simp) k (.pointer (some ⟨P', 0, none⟩))
      have HNB := Lib.hid (rnew_d hd5b (r' := k + 1) (j := k) (fun j hj => by omega) k hlt)
      rw [up_id, up_emp] at HNA HNB
      have HPA := Lib.hid hp5d
      clear hd5 hb5 hd5d hd5b hp5d
      go_wp2
      go_region_with (first
        | (go_at_call 46; (with_reducible refine HNA.out.mono ?_); rintro e w6 ⟨R', rfl, hd6, hb6⟩; have HD6 := Lib.hid hd6; have HQ6 := Lib.hid (HPA.out.more hb6); have xP := HQ6.out.arrP.cell hlt; have yP := HQ6.out.arrP.frozen k; have xR := HQ6.out.arrR.cell hlt; have yR := HQ6.out.arrR.frozen k; clear hd6 hb6)
        | (go_at_call 46; (with_reducible refine HNB.out.mono ?_); rintro e w6 ⟨R', rfl, hd6, hb6⟩; have HD6 := Lib.hid hd6; have HQ6 := Lib.hid (HPB.out.more hb6); have xR := HQ6.out.arrR.cell hlt; have yR := HQ6.out.arrR.frozen k; clear hd6 hb6)
        | fail)
      all_goals
        go_wp2
        go_roundw
        case rel => exact ⟨k + 1, upN P k P', upN R k R', by omega, by go_num, Lib.hid ((HD6.out.setX (g := w.heap.size + 2) (by unfold X4; simp) k _).setX (g := w.heap.size + 3) (by unfold X4; simp) k _), Lib.hid ((HQ6.out.setP hlt P').setR hlt R')⟩
        case measure => simp [intOf]; omega
    · obtain rfl : k = 4 := by omega
      have p0 : wr.cell? ⟨w.heap.size + 2, 0, none⟩ = some (.pointer (some ⟨P 0, 0, none⟩)) := HP.out.arrP.cell (j := 0) (by omega)
      have p1 : wr.cell? ⟨w.heap.size + 2, 1, none⟩ = some (.pointer (some ⟨P 1, 0, none⟩)) := HP.out.arrP.cell (j := 1) (by omega)
      have p2 : wr.cell? ⟨w.heap.size + 2, 2, none⟩ = some (.pointer (some ⟨P 2, 0, none⟩)) := HP.out.arrP.cell (j := 2) (by omega)
      have p3 : wr.cell? ⟨w.heap.size + 2, 3, none⟩ = some (.pointer (some ⟨P 3, 0, none⟩)) := HP.out.arrP.cell (j := 3) (by omega)
      have q0 : wr.cell? ⟨w.heap.size + 3, 0, none⟩ = some (.pointer (some ⟨R 0, 0, none⟩)) := HP.out.arrR.cell (j := 0) (by omega)
      have q1 : wr.cell? ⟨w.heap.size + 3, 1, none⟩ = some (.pointer (some ⟨R 1, 0, none⟩)) := HP.out.arrR.cell (j := 1) (by omega)
      have q2 : wr.cell? ⟨w.heap.size + 3, 2, none⟩ = some (.pointer (some ⟨R 2, 0, none⟩)) := HP.out.arrR.cell (j := 2) (by omega)
      have q3 : wr.cell? ⟨w.heap.size + 3, 3, none⟩ = some (.pointer (some ⟨R 3, 0, none⟩)) := HP.out.arrR.cell (j := 3) (by omega)
      have r0 := heap_cell (j := 0) HP.out.res1 rfl
      have r1 := heap_cell (j := 1) HP.out.res1 rfl
      have r2 := heap_cell (j := 2) HP.out.res1 rfl
      have r3 := heap_cell (j := 3) HP.out.res1 rfl
      have s0 := heap_cell (j := 0) HP.out.res2 rfl
      have s1 := heap_cell (j := 1) HP.out.res2 rfl
      have s2 := heap_cell (j := 2) HP.out.res2 rfl
      have s3 := heap_cell (j := 3) HP.out.res2 rfl
      have g0 : ∀ j, wr.frozen? ⟨w.heap.size, j, none⟩ = false := fun j => by have h9 := HP.out.res1; simp [World.frozen?, h9]
      have g1 : ∀ j, wr.frozen? ⟨w.heap.size + 1, j, none⟩ = false := fun j => by have h9 := HP.out.res2; simp [World.frozen?, h9]
      go_wp2
      go_region_law (fail)
      all_goals go_wp2
      all_goals
        refine bodyPost_ret (v := .tuple #[.agg #[.pointer (some ⟨P 0, 0, none⟩), .pointer (some ⟨P 1, 0, none⟩), .pointer (some ⟨P 2, 0, none⟩), .pointer (some ⟨P 3, 0, none⟩)], .agg #[.pointer (some ⟨R 0, 0, none⟩), .pointer (some ⟨R 1, 0, none⟩), .pointer (some ⟨R 2, 0, none⟩), .pointer (some ⟨R 3, 0, none⟩)], .bool true]) (by simp [results, Tryz.results26, go_sem, r0, r1, r2, r3, s0, s1, s2, s3]) rfl ⟨P, R, rfl, ?_, ?_⟩
        · repeat (first | with_reducible exact HD.out | with_reducible refine DuoL.drewn ?_ | with_reducible refine DuoL.setX ?_ (x4_0 _) _ _ | with_reducible refine DuoL.setX ?_ (x4_1 _) _ _)
        · repeat (first | with_reducible exact HP.out.below | with_reducible refine Below.drew ?_ | (with_reducible refine Below.setCell ?_ ?_ _; rotate_left; (first | exact Nat.le_refl _ | exact Nat.le_succ _)))
end Go.Proofs.YtdfkaijeppdhaaaGreatDoor

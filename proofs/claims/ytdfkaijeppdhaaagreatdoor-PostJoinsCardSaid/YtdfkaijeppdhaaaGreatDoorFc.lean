/- Contracts of a post's methods: Copy, Seen. -/
import Derived.Test.YtdfkaijeppdhaaaGreatDoorFb
namespace Go.Proofs.YtdfkaijeppdhaaaGreatDoor
open Go.RowKit Go.Shelf

/-- A copy: on new blocks. -/
def CopyPost (n : Nat) (b : Book) (w : World) (e : Ending) (w' : World) : Prop :=
  ∃ P' F', e = .returned (.pointer (some ⟨P', 0, none⟩)) ∧ PostAt w' P' F' n b ∧ NewOr w [] F' ∧ Below w.heap.size w w'
theorem ListAt.same {w : World} {v : Value} {l m : List Ent} (h : ListAt w v l) (e : l = m) : ListAt w v m := e ▸ h
theorem BookIs.same {w : World} {K : Nat} {vs : Nat → Value} {b c : Book} (h : BookIs w K vs b) (e : ∀ i, i < 4 → b i = c i) : BookIs w K vs c := ⟨h.cells, fun i hi => (h.list i hi).same (e i hi), h.apart⟩
theorem copy_end {w W : World} {n N lo : Nat} {us : Nat → Value} {c b : Book} (hb : Below w.heap.size w W) (hB : BookIs W N us c) (hcb : ∀ i, i < 4 → c i = b i) (hN : w.heap.size ≤ N) (hlo : w.heap.size ≤ lo) (hl : ∀ i, i < 4 → ∀ g, (us i).ownBlock = some g → lo ≤ g) :
    CopyPost n b w (.returned (.pointer (some ⟨W.heap.size, 0, none⟩))) (W.alloc (.cells #[.pointer (some ⟨N, 0, none⟩), .int .i64 n] 81)) := by
  have hsz := hb.size
  refine ⟨W.heap.size, W.heap.size :: N :: blks (us 0) (us 1) (us 2) (us 3), rfl, ⟨N, _, World.alloc_heap_new W _, ((hB.below ((Below.refl _ _).alloc (Nat.le_refl _) _)).same hcb).at, rfl⟩, fun k hk => .inr ?_, hb.alloc hsz _⟩
  rcases List.mem_cons.1 hk with rfl | hk
  · exact hsz
  · rcases List.mem_cons.1 hk with rfl | hk
    · exact hN
    · obtain ⟨i, hi, h5⟩ := mem_blks.1 hk
      have := hl i hi k h5
      omega
set_option maxRecDepth 100000 in
set_option maxHeartbeats 4000000 in
theorem copy_post (P n : Nat) (F : List Nat) (b : Book) (w : World) (h : PostAt w P F n b) (hok : BookOk b) :
    Calls Tryz.prog 35 #[.pointer (some ⟨P, 0, none⟩)] w (CopyPost n b w) := by
  obtain ⟨K, vs, hP, hvs, hF⟩ := h.parts
  have HN := Lib.hid (none_any P K n _ w hP)
  have HJ := Lib.hid (fun W (hW : KB w W) => joined_any K K vs vs b b W (hvs.below hW) (hvs.below hW) (fun i hi => (hok i hi).len) (fun i hi => (hok i hi).len))
  have HPC := Lib.hid hP
  have r0 : ∀ W, KB w W → W.cell? ⟨P, 0, none⟩ = some (.pointer (some ⟨K, 0, none⟩)) := fun W hW => keep_cell hW (heap_cell hP rfl)
  have r1 : ∀ W, KB w W → W.cell? ⟨P, 1, none⟩ = some (.int .i64 (n : Int)) := fun W hW => keep_cell hW (heap_cell hP rfl)
  clear h hvs hok hF hP
  unfold JoinPost at HJ
  obtain ⟨c, hj, hcb⟩ := joinB_self' (b := b)
  rw [hj] at HJ
  simp only at HJ
  have HCB := Lib.hid hcb
  clear hj hcb
  go_enter Tryz.func35, Tryz.ntmps35
  go_wp2_with fail
  refine HN.out.mono ?_
  rintro e w' ⟨rfl, rfl⟩
  go_wp2
  go_region_held3 (fun W => KB w W) (first | exact KB.refl _ | exact KB.drew (KB.refl _) | assumption | exact KB.drew (by assumption) | (unfold KB at *; repeat (first | assumption | exact Below.refl _ _ | refine Below.setCell ?_ (by first | omega | (simp; done) | (simp; omega)) _ | refine Below.drew ?_ | refine Below.alloc ?_ (by first | omega | (simp; done) | (simp; omega)) _)) | fail) (first
    | (go_at_call 65; refine (HJ.out _ (by first | exact KB.refl _ | exact KB.drew (KB.refl _) | assumption | (unfold KB; exact (Below.refl _ _).alloc (Nat.le_refl _) _) | (unfold KB; exact ((Below.refl _ _).alloc (Nat.le_refl _) _).drew))).mono ?_; rintro e w2 ⟨⟨us, rfl, hnb⟩, hb2⟩; obtain ⟨a0, d0, a1, d1, a2, d2, a3, d3, f0, f1, f2, f3⟩ := hnb.parts; unfold aggV; rw [f0, f1, f2, f3]; have HU := Lib.hid (And.intro f0 (And.intro f1 (And.intro f2 f3))); clear f0 f1 f2 f3; have hk2 := KB.call (w := w) (by first | exact KB.refl _ | exact KB.drew (KB.refl _) | assumption | (unfold KB; exact (Below.refl _ _).alloc (Nat.le_refl _) _) | (unfold KB; exact ((Below.refl _ _).alloc (Nat.le_refl _) _).drew)) hb2; have hsz2 : w.heap.size ≤ w2.heap.size := hk2.size; first | (have hqq := (hb2.block w.heap.size (by simp)).trans (World.alloc_heap_new w (.cells #[.slice none 0 0, .slice none 0 0, .slice none 0 0, .slice none 0 0] 96)); have hq := var_cells hqq; have q0 := hq.1 0 (by omega); have q1 := hq.1 1 (by omega); have q2 := hq.1 2 (by omega); have q3 := hq.1 3 (by omega); have qf := hq.2) | skip)
    | fail)
  · have hbW : KB w (w2.alloc (.cells #[.slice a0 (c 0).length d0, .slice a1 (c 1).length d1, .slice a2 (c 2).length d2, .slice a3 (c 3).length d3] 96)) := KB.alloc hk2 _
    have y1 := r1 _ hbW
    have HE := Lib.hid (copy_end (n := n) (us := us) hbW (NewBook.is (c := c) (hnb.keep fun i hi g hg => Below.heap_alloc _ _ _ ((hnb.list i hi).lt hg)) (by rw [HU.out.1, HU.out.2.1, HU.out.2.2.1, HU.out.2.2.2]; exact World.alloc_heap_new w2 _)) HCB.out hsz2 (Nat.le_refl _) hnb.low)
    rw [World.size_alloc] at HE
    clear hbW hnb r0 r1
    go_wp2
    go_ret
    exact HE.out
  · have hbW : KB w ((((w2.setCell ⟨w.heap.size, 0, none⟩ (.slice a0 (c 0).length d0)).setCell ⟨w.heap.size, 1, none⟩ (.slice a1 (c 1).length d1)).setCell ⟨w.heap.size, 2, none⟩ (.slice a2 (c 2).length d2)).setCell ⟨w.heap.size, 3, none⟩ (.slice a3 (c 3).length d3)) := below_four hk2 (Nat.le_refl _) _ _ _ _
    have y1 := r1 _ hbW
    have HE := Lib.hid (copy_end (n := n) (us := us) hbW (NewBook.is (c := c) (hnb.keep fun i hi g hg => four_other _ _ _ _ (by have := hnb.low i hi g hg; simp at this; omega)) (by rw [HU.out.1, HU.out.2.1, HU.out.2.2.1, HU.out.2.2.2]; exact set_four hqq _ _ _ _)) HCB.out (Nat.le_refl _) (Nat.le_refl _) (fun i hi g hg => by have := hnb.low i hi g hg; simp at this; omega))
    rw [World.size_setCell, World.size_setCell, World.size_setCell, World.size_setCell] at HE
    clear hbW hnb r0 r1 hqq hq q0 q1 q2 q3 qf
    go_wp2
    go_ret
    exact HE.out

/-! ### Seen -/
def SeenPost (b : Book) (w : World) (e : Ending) (w' : World) : Prop :=
  e = .returned (.agg #[.int .i64 ((b 0).length : Int), .int .i64 ((b 1).length : Int), .int .i64 ((b 2).length : Int), .int .i64 ((b 3).length : Int)]) ∧ Below w.heap.size w w'
def seenTo (b : Book) (k j : Nat) : Value := .int .i64 (if j < k then ((b j).length : Int) else 0)
structure SeenAt (b : Book) (w : World) (k : Nat) (wr : World) : Prop where
  cells : wr.heap[w.heap.size + 1]? = some (.cells #[seenTo b k 0, seenTo b k 1, seenTo b k 2, seenTo b k 3] 34 (0, 0))
  res : wr.heap[w.heap.size]? = some (.cells #[.int .i64 0, .int .i64 0, .int .i64 0, .int .i64 0] 34 (0, 0))
  below : Below w.heap.size w wr
theorem SeenAt.next {b : Book} {w wr : World} {k : Nat} (h : SeenAt b w k wr) (hk : k < 4) : SeenAt b w (k + 1) (wr.setCell ⟨w.heap.size + 1, k, none⟩ (.int .i64 ((b k).length : Int))) := by
  refine ⟨?_, (Below.heap_setCell _ _ _ _ (by simp)).trans h.res, h.below.setCell (p := ⟨w.heap.size + 1, k, none⟩) (by simp) _⟩
  rw [setCell_four h.cells]
  unfold seenTo
  rcases (show k = 0 ∨ k = 1 ∨ k = 2 ∨ k = 3 by omega) with rfl | rfl | rfl | rfl <;> simp
set_option maxRecDepth 100000 in
set_option maxHeartbeats 4000000 in
theorem seen_post (P n : Nat) (F : List Nat) (b : Book) (w : World) (h : PostAt w P F n b) (hok : BookOk b) :
    Calls Tryz.prog 21 #[.pointer (some ⟨P, 0, none⟩)] w (SeenPost b w) := by
  obtain ⟨K, vs, hP, hvs, hF⟩ := h.parts
  have HS := Lib.hid hvs
  have HPC := Lib.hid hP
  have HOK := Lib.hid (fun i hi => (hok i hi).len)
  clear h hP hvs hF hok
  obtain ⟨w2, hw2⟩ : ∃ w2, w2 = (w.alloc (.cells #[.int .i64 0, .int .i64 0, .int .i64 0, .int .i64 0] 34)).alloc (.cells #[.int .i64 0, .int .i64 0, .int .i64 0, .int .i64 0] 34) := ⟨_, rfl⟩
  have H2 : Hid (SeenAt b w 0 w2) := Lib.hid (by
    refine ⟨?_, ?_, by rw [hw2]; exact ((Below.refl _ w).alloc (Nat.le_refl _) _).alloc (by simp) _⟩
    · have := World.alloc_heap_new (w.alloc (.cells #[.int .i64 0, .int .i64 0, .int .i64 0, .int .i64 0] 34)) (.cells #[.int .i64 0, .int .i64 0, .int .i64 0, .int .i64 0] 34)
      rw [World.size_alloc] at this
      rw [hw2]; exact this
    · rw [hw2]; exact (Below.heap_alloc _ _ _ (by simp)).trans (World.alloc_heap_new w _))
  have HW2 := Lib.hid hw2
  clear hw2
  go_enter Tryz.func21, Tryz.ntmps21
  go_wp2_with fail
  rw [← HW2.out]
  go_loopw [5] (fun i wr => ∃ k : Nat, k ≤ 4 ∧ i = .int .i64 k ∧ Hid (SeenAt b w k wr)) (fun i _ => 4 - (intOf i).toNat)
  case atStart => exact ⟨0, Nat.zero_le _, rfl, H2⟩
  case round =>
    obtain ⟨k, hk, rfl, ho⟩ := hrel
    by_cases hlt : k < 4
    · have hlt2 : (k : Int) < 4 := by omega
      have hge : (0 : Int) ≤ (k : Int) := by omega
      have S1 := Lib.hid (HS.out.below ho.out.below)
      have P1 := Lib.hid ((ho.out.below.block P (Array.getElem?_eq_some_iff.1 HPC.out).1).trans HPC.out)
      have HN := Lib.hid (none_any P K n _ wr P1.out)
      obtain ⟨a1, c1, e1⟩ := S1.out.slice hlt
      have q1 := S1.out.cell hlt
      rw [e1] at q1
      have hlen := HOK.out k hlt
      have HNX := Lib.hid (ho.out.next hlt)
      have p0 := heap_cell (j := 0) P1.out rfl
      have x0 : ∃ u, wr.cell? ⟨w.heap.size + 1, k, none⟩ = some u := by
        rcases (show k = 0 ∨ k = 1 ∨ k = 2 ∨ k = 3 by omega) with rfl | rfl | rfl | rfl <;> exact ⟨_, heap_cell ho.out.cells rfl⟩
      obtain ⟨u4, hu4⟩ := x0
      have g0 : wr.frozen? ⟨w.heap.size + 1, k, none⟩ = false := by have h9 := ho.out.cells; simp [World.frozen?, h9]
      clear e1
      generalize (b k).length = bl at *
      go_wp2_with fail
      refine HN.out.mono ?_
      rintro e w3 ⟨rfl, rfl⟩
      go_wp2
      go_roundw
      case rel => exact ⟨k + 1, by omega, by go_num, HNX⟩
      case measure => simp [intOf]; omega
    · have e : k = 4 := by omega
      subst e
      have r0 := heap_cell (j := 0) ho.out.res rfl
      have r1 := heap_cell (j := 1) ho.out.res rfl
      have r2 := heap_cell (j := 2) ho.out.res rfl
      have r3 := heap_cell (j := 3) ho.out.res rfl
      have g0 : ∀ j, wr.frozen? ⟨w.heap.size, j, none⟩ = false := fun j => by have h9 := ho.out.res; simp [World.frozen?, h9]
      have y0 : wr.cell? ⟨w.heap.size + 1, 0, none⟩ = some (.int .i64 ((b 0).length : Int)) := heap_cell (j := 0) ho.out.cells rfl
      have y1 : wr.cell? ⟨w.heap.size + 1, 1, none⟩ = some (.int .i64 ((b 1).length : Int)) := heap_cell (j := 1) ho.out.cells rfl
      have y2 : wr.cell? ⟨w.heap.size + 1, 2, none⟩ = some (.int .i64 ((b 2).length : Int)) := heap_cell (j := 2) ho.out.cells rfl
      have y3 : wr.cell? ⟨w.heap.size + 1, 3, none⟩ = some (.int .i64 ((b 3).length : Int)) := heap_cell (j := 3) ho.out.cells rfl
      go_wp2
      refine bodyPost_ret (v := .agg #[.int .i64 ((b 0).length : Int), .int .i64 ((b 1).length : Int), .int .i64 ((b 2).length : Int), .int .i64 ((b 3).length : Int)]) (by simp [results, Tryz.results21, go_sem, r0, r1, r2, r3]) rfl ⟨rfl, ?_⟩
      exact below_four ho.out.below (Nat.le_refl _) _ _ _ _
end Go.Proofs.YtdfkaijeppdhaaaGreatDoor

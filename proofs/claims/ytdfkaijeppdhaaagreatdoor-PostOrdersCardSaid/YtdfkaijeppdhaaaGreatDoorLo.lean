/- The law PostOrders. -/
import Derived.Test.YtdfkaijeppdhaaaGreatDoorLj
import Derived.Deep.DeepCutAuto
namespace Go.Proofs.YtdfkaijeppdhaaaGreatDoor
open Go.RowKit Go.Shelf

/-! ### Plain -/
/-- Of a deed that came off: the entry that is written. -/
theorem doB_done {b : Book} {n : Nat} {line : ByteArray} (h : (doB b n line).2.1 = 0) : (doB b n line).2.2 = addAt b n (newE b n line) := by
  unfold doB at h ⊢
  split at h
  · simp at h
  · rename_i c hc
    split at h
    · simp at h
    · rename_i hd
      rw [if_neg hd]
      split at h
      · simp at h
      · rename_i hl
        rw [if_neg hl]
        split at h
        · rename_i h0
          rw [if_pos h0]
        · rename_i h0
          exact absurd h h0
theorem doB_not {b : Book} {n : Nat} {line : ByteArray} (h : (doB b n line).2.1 ≠ 0) : (doB b n line).1 = emp ∧ (doB b n line).2.2 = b := by
  unfold doB at h ⊢
  split at h
  · exact ⟨rfl, rfl⟩
  · rename_i c hc
    split at h
    · rename_i hd
      rw [if_pos hd]; exact ⟨rfl, rfl⟩
    · rename_i hd
      rw [if_neg hd]
      split at h
      · rename_i hl
        rw [if_pos hl]; exact ⟨rfl, rfl⟩
      · rename_i hl
        rw [if_neg hl]
        split at h
        · exact absurd rfl h
        · rename_i h0
          rw [if_neg h0]; exact ⟨rfl, rfl⟩
theorem doB_grow (b : Book) (n : Nat) (line : ByteArray) (i : Nat) : (b i).length ≤ ((doB b n line).2.2 i).length := by
  rcases doB_cases b n line with e | e
  · rw [e]; exact Nat.le_refl _
  · rw [e]
    unfold addAt
    by_cases h : i = n
    · subst h; rw [setB_same]; simp
    · rw [setB_other _ _ h]; exact Nat.le_refl _
/-! ### Two variables of four numbers -/
def zeroQ : Obj := .cells #[.int .i64 0, .int .i64 0, .int .i64 0, .int .i64 0] 34
def ZAt (W : World) (g : Nat) : Prop := W.heap[g]? = some zeroQ
/-- How long the list i of a book is. -/
def lenI (b : Book) (i : Nat) : Int := ((b i).length : Int)
def QAt (W : World) (g : Nat) (b : Book) : Prop := W.heap[g]? = some (.cells #[.int .i64 (lenI b 0), .int .i64 (lenI b 1), .int .i64 (lenI b 2), .int .i64 (lenI b 3)] 34 (0, 0))
def SeenI (b : Book) (w : World) (e : Ending) (w' : World) : Prop := e = .returned (.agg #[.int .i64 (lenI b 0), .int .i64 (lenI b 1), .int .i64 (lenI b 2), .int .i64 (lenI b 3)]) ∧ Below w.heap.size w w'
theorem QAt.cell {W : World} {g : Nat} {b : Book} (h : QAt W g b) {j : Nat} (hj : j < 4) : W.cell? ⟨g, j, none⟩ = some (.int .i64 (lenI b j)) := by
  rcases (show j = 0 ∨ j = 1 ∨ j = 2 ∨ j = 3 by omega) with rfl | rfl | rfl | rfl <;> exact heap_cell h rfl
theorem quad_notT : ¬ isPostT 34 := by unfold isPostT; decide
theorem QAt.kin {base : Nat} {W W' : World} {g : Nat} {b : Book} (h : QAt W g b) (hk : Kin base W W') : QAt W' g b := hk.keep h quad_notT
theorem QAt.below {W W' : World} {g : Nat} {b : Book} (h : QAt W g b) (hb : Below W.heap.size W W') : QAt W' g b := (hb.block g (Array.getElem?_eq_some_iff.1 h).1).trans h
theorem seen_b {base : Nat} {w : World} {l : List PB} (h : PsL base w l) {i : Nat} (hi : i < l.length) : Calls Tryz.prog 21 #[.pointer (some ⟨(atL l i).1, 0, none⟩)] w (SeenI (atL l i).2.2 w) := by
  obtain ⟨F, h1, _, _⟩ := PsAt.post h hi
  exact seen_post _ _ _ _ w h1 (PsL.ok h hi)
theorem z_one {w wa : World} (k : Below ((w.alloc (.cells #[.int .i64 0, .int .i64 0, .int .i64 0, .int .i64 0] 34)).drew).heap.size (w.alloc (.cells #[.int .i64 0, .int .i64 0, .int .i64 0, .int .i64 0] 34)).drew wa) : ZAt wa w.heap.size :=
  (k.block _ (by rw [World.size_drew, World.size_alloc]; omega)).trans (World.alloc_heap_new w _)
theorem z_two {w wa : World} (k : Below (((w.alloc (.cells #[.int .i64 0, .int .i64 0, .int .i64 0, .int .i64 0] 34)).alloc (.cells #[.int .i64 0, .int .i64 0, .int .i64 0, .int .i64 0] 34)).drew).heap.size ((w.alloc (.cells #[.int .i64 0, .int .i64 0, .int .i64 0, .int .i64 0] 34)).alloc (.cells #[.int .i64 0, .int .i64 0, .int .i64 0, .int .i64 0] 34)).drew wa) : ZAt wa w.heap.size ∧ ZAt wa (w.heap.size + 1) := by
  refine ⟨(k.block _ (by rw [World.size_drew, World.size_alloc, World.size_alloc]; omega)).trans ((Below.heap_alloc _ _ _ (by rw [World.size_alloc]; omega)).trans (World.alloc_heap_new w _)), (k.block _ (by rw [World.size_drew, World.size_alloc, World.size_alloc]; omega)).trans ?_⟩
  have := World.alloc_heap_new (w.alloc (.cells #[.int .i64 0, .int .i64 0, .int .i64 0, .int .i64 0] 34)) (.cells #[.int .i64 0, .int .i64 0, .int .i64 0, .int .i64 0] 34)
  rw [World.size_alloc] at this
  exact this
theorem ZAt.lt {w : World} {g : Nat} (h : ZAt w g) : g < w.heap.size := (Array.getElem?_eq_some_iff.1 h).1
theorem z_keep {w wa : World} {g : Nat} (h : ZAt w g) (k : Below w.heap.size w wa) : ZAt wa g := (k.block g h.lt).trans h
theorem z_alloc {w : World} {g : Nat} (h : ZAt w g) (o : Obj) : ZAt (w.alloc o) g := (Below.heap_alloc _ _ _ h.lt).trans h
theorem z_new {w wa : World} (k : Below (w.alloc (.cells #[.int .i64 0, .int .i64 0, .int .i64 0, .int .i64 0] 34)).heap.size (w.alloc (.cells #[.int .i64 0, .int .i64 0, .int .i64 0, .int .i64 0] 34)) wa) : ZAt wa w.heap.size := z_keep (World.alloc_heap_new w _) k
theorem z_new2 {w wa : World} (k : Below ((w.alloc (.cells #[.int .i64 0, .int .i64 0, .int .i64 0, .int .i64 0] 34)).alloc (.cells #[.int .i64 0, .int .i64 0, .int .i64 0, .int .i64 0] 34)).heap.size ((w.alloc (.cells #[.int .i64 0, .int .i64 0, .int .i64 0, .int .i64 0] 34)).alloc (.cells #[.int .i64 0, .int .i64 0, .int .i64 0, .int .i64 0] 34)) wa) : ZAt wa w.heap.size ∧ ZAt wa (w.heap.size + 1) := by
  refine ⟨z_keep (z_alloc (World.alloc_heap_new w _) _) k, z_keep ?_ k⟩
  have := World.alloc_heap_new (w.alloc (.cells #[.int .i64 0, .int .i64 0, .int .i64 0, .int .i64 0] 34)) (.cells #[.int .i64 0, .int .i64 0, .int .i64 0, .int .i64 0] 34)
  rw [World.size_alloc] at this
  exact this
theorem z_cells {W : World} {g : Nat} (h : ZAt W g) : (W.cell? ⟨g, 0, none⟩ = some (.int .i64 0) ∧ W.cell? ⟨g, 1, none⟩ = some (.int .i64 0) ∧ W.cell? ⟨g, 2, none⟩ = some (.int .i64 0) ∧ W.cell? ⟨g, 3, none⟩ = some (.int .i64 0)) ∧ ∀ j, W.frozen? ⟨g, j, none⟩ = false := by
  have h2 : W.heap[g]? = some (.cells #[.int .i64 0, .int .i64 0, .int .i64 0, .int .i64 0] 34 (0, 0)) := h
  exact ⟨⟨heap_cell h2 rfl, heap_cell h2 rfl, heap_cell h2 rfl, heap_cell h2 rfl⟩, fun j => by simp [World.frozen?, h2]⟩
theorem z_lt {W : World} {g : Nat} (h : ZAt W g) : g < W.heap.size ∧ g < W.heap.size + 1 := by have := h.lt; omega
theorem z_lt3 {W : World} {g : Nat} (h : ZAt W g) : g < W.heap.size ∧ g < W.heap.size + 1 := z_lt h
theorem sz_one {w wb : World} {o : Obj} (k : Below (w.alloc o).heap.size (w.alloc o) wb) : w.heap.size ≤ wb.heap.size := by have := k.size; rw [World.size_alloc] at this; omega
theorem sz_two {w wb : World} {o o' : Obj} (k : Below ((w.alloc o).alloc o').heap.size ((w.alloc o).alloc o') wb) : w.heap.size ≤ wb.heap.size := by have := k.size; rw [World.size_alloc, World.size_alloc] at this; omega
theorem kb_set {w W : World} {b o : Nat} {v : Value} (h : KB w W) (hb : w.heap.size ≤ b) : KB w (W.setCell ⟨b, o, none⟩ v) := Below.setCell (p := ⟨b, o, none⟩) h hb _
theorem KB.size {w W : World} (h : KB w W) : w.heap.size ≤ W.heap.size := Below.size h
/-- Two variables, set. -/
def TwoQ (w9 : World) (a b : Book) (s14 s15 : Value) (wx : World) : Prop := ∃ g1 g2, s14 = .pointer (some ⟨g1, 0, none⟩) ∧ s15 = .pointer (some ⟨g2, 0, none⟩) ∧ QAt wx g1 a ∧ QAt wx g2 b ∧ KB w9 wx
theorem q_new (W : World) (a : Book) : QAt (W.alloc (.cells #[.int .i64 (lenI a 0), .int .i64 (lenI a 1), .int .i64 (lenI a 2), .int .i64 (lenI a 3)] 34)) W.heap.size a := World.alloc_heap_new W _
theorem QAt.alloc {W : World} {g : Nat} {a : Book} (h : QAt W g a) (o : Obj) : QAt (W.alloc o) g a := (Below.heap_alloc _ _ _ (Array.getElem?_eq_some_iff.1 h).1).trans h
def set4 (W : World) (g : Nat) (a : Book) : World := (((W.setCell ⟨g, 0, none⟩ (.int .i64 (lenI a 0))).setCell ⟨g, 1, none⟩ (.int .i64 (lenI a 1))).setCell ⟨g, 2, none⟩ (.int .i64 (lenI a 2))).setCell ⟨g, 3, none⟩ (.int .i64 (lenI a 3))
theorem q_set {W : World} {g : Nat} (h : ZAt W g) (a : Book) : QAt (set4 W g a) g a := set_four h _ _ _ _
theorem set4_other (W : World) (g : Nat) (a : Book) {k : Nat} (hk : k ≠ g) : (set4 W g a).heap[k]? = W.heap[k]? := four_other _ _ _ _ hk
theorem kb_set4 {w W : World} {g : Nat} (a : Book) (h : KB w W) (hg : w.heap.size ≤ g) : KB w (set4 W g a) := below_four h hg _ _ _ _
theorem set4_size (W : World) (g : Nat) (a : Book) : (set4 W g a).heap.size = W.heap.size := by unfold set4; simp
section twoq
variable {w9 wb : World} {a b : Book} {g h : Nat}
theorem tq1 (k : KB w9 wb) : TwoQ w9 a b (.pointer (some ⟨wb.heap.size, 0, none⟩)) (.pointer (some ⟨wb.heap.size + 1, 0, none⟩)) ((wb.alloc (.cells #[.int .i64 (lenI a 0), .int .i64 (lenI a 1), .int .i64 (lenI a 2), .int .i64 (lenI a 3)] 34)).alloc (.cells #[.int .i64 (lenI b 0), .int .i64 (lenI b 1), .int .i64 (lenI b 2), .int .i64 (lenI b 3)] 34)) := by
  have := q_new (wb.alloc (.cells #[.int .i64 (lenI a 0), .int .i64 (lenI a 1), .int .i64 (lenI a 2), .int .i64 (lenI a 3)] 34)) b
  rw [World.size_alloc] at this
  exact ⟨_, _, rfl, rfl, (q_new wb a).alloc _, this, KB.alloc (KB.alloc k _) _⟩
theorem tq2 (k : KB w9 wb) : TwoQ w9 a b (.pointer (some ⟨wb.heap.size + 1, 0, none⟩)) (.pointer (some ⟨wb.heap.size, 0, none⟩)) ((wb.alloc (.cells #[.int .i64 (lenI b 0), .int .i64 (lenI b 1), .int .i64 (lenI b 2), .int .i64 (lenI b 3)] 34)).alloc (.cells #[.int .i64 (lenI a 0), .int .i64 (lenI a 1), .int .i64 (lenI a 2), .int .i64 (lenI a 3)] 34)) := by
  have := q_new (wb.alloc (.cells #[.int .i64 (lenI b 0), .int .i64 (lenI b 1), .int .i64 (lenI b 2), .int .i64 (lenI b 3)] 34)) a
  rw [World.size_alloc] at this
  exact ⟨_, _, rfl, rfl, this, (q_new wb b).alloc _, KB.alloc (KB.alloc k _) _⟩
theorem tq3 (k : KB w9 wb) (z : ZAt wb g) (hg : w9.heap.size ≤ g) : TwoQ w9 a b (.pointer (some ⟨g, 0, none⟩)) (.pointer (some ⟨wb.heap.size, 0, none⟩)) (((((wb.setCell ⟨g, 0, none⟩ (.int .i64 (lenI a 0))).setCell ⟨g, 1, none⟩ (.int .i64 (lenI a 1))).setCell ⟨g, 2, none⟩ (.int .i64 (lenI a 2))).setCell ⟨g, 3, none⟩ (.int .i64 (lenI a 3))).alloc (.cells #[.int .i64 (lenI b 0), .int .i64 (lenI b 1), .int .i64 (lenI b 2), .int .i64 (lenI b 3)] 34)) := by
  have := q_new (set4 wb g a) b
  rw [set4_size] at this
  exact ⟨_, _, rfl, rfl, (q_set z a).alloc _, this, KB.alloc (kb_set4 a k hg) _⟩
theorem tq4 (k : KB w9 wb) (z : ZAt wb g) (hg : w9.heap.size ≤ g) : TwoQ w9 a b (.pointer (some ⟨wb.heap.size, 0, none⟩)) (.pointer (some ⟨g, 0, none⟩)) (((((wb.setCell ⟨g, 0, none⟩ (.int .i64 (lenI b 0))).setCell ⟨g, 1, none⟩ (.int .i64 (lenI b 1))).setCell ⟨g, 2, none⟩ (.int .i64 (lenI b 2))).setCell ⟨g, 3, none⟩ (.int .i64 (lenI b 3))).alloc (.cells #[.int .i64 (lenI a 0), .int .i64 (lenI a 1), .int .i64 (lenI a 2), .int .i64 (lenI a 3)] 34)) := by
  have := q_new (set4 wb g b) a
  rw [set4_size] at this
  exact ⟨_, _, rfl, rfl, this, (q_set z b).alloc _, KB.alloc (kb_set4 b k hg) _⟩
theorem tq5 (k : KB w9 wb) (z : ZAt wb g) (z2 : ZAt wb h) (hg : w9.heap.size ≤ g) (hh : w9.heap.size ≤ h) (hne : g ≠ h) : TwoQ w9 a b (.pointer (some ⟨g, 0, none⟩)) (.pointer (some ⟨h, 0, none⟩)) ((((((((wb.setCell ⟨g, 0, none⟩ (.int .i64 (lenI a 0))).setCell ⟨g, 1, none⟩ (.int .i64 (lenI a 1))).setCell ⟨g, 2, none⟩ (.int .i64 (lenI a 2))).setCell ⟨g, 3, none⟩ (.int .i64 (lenI a 3))).setCell ⟨h, 0, none⟩ (.int .i64 (lenI b 0))).setCell ⟨h, 1, none⟩ (.int .i64 (lenI b 1))).setCell ⟨h, 2, none⟩ (.int .i64 (lenI b 2))).setCell ⟨h, 3, none⟩ (.int .i64 (lenI b 3))) := by
  refine ⟨_, _, rfl, rfl, ?_, q_set (W := set4 wb g a) ((set4_other _ _ _ (Ne.symm hne)).trans z2) b, kb_set4 b (kb_set4 a k hg) hh⟩
  exact (set4_other (set4 wb g a) h b hne).trans (q_set z a)
end twoq
set_option maxRecDepth 100000 in
set_option maxHeartbeats 16000000 in
theorem PostOrders_walk (v : Value) (lines : List ByteArray) (n : Int) (line : ByteArray) (w : World) (hL : StrsIn w v lines) (_hn : (Lit.int .u32 n).wf = true) (hs : line.size ≤ maxLen) (hV : Vars w) :
    Calls Tryz.prog 4 #[v, .int .u32 n, .string line] w (BoolPost true w) := by
  have HVR := Lib.hid hV
  have HLG := Lib.hid (long_any v lines 24 w hL)
  have HWR := Lib.hid (fun W (hW : Below w.heap.size w W) (h1 : ∀ s ∈ lines, s.size ≤ 200) (h2 : lines.length ≤ 30) => written_any v lines n W (hL.at_.below hW) h1 h2 (HVR.out.below hW))
  obtain ⟨la, lc, rfl, hc⟩ := hL.at_
  have hs2 : (line.size : Int) ≤ 9223372036854775807 := by unfold maxLen at hs; omega
  clear hc hL hV hs
  cases hlong : longB lines 24 with
  | true =>
    rw [hlong] at HLG
    clear hlong
    go_enter Tryz.func4, Tryz.ntmps4
    go_wp2_with fail
    refine HLG.out.mono ?_
    rintro e w1 ⟨rfl, hb1⟩
    have HB1 := Lib.hid hb1
    clear hb1
    go_wp2_with fail
    refine (sane_any _ (HVR.out.below HB1.out)).mono ?_
    rintro e w2 ⟨rfl, hb2⟩
    have HB2 := Lib.hid (below_trans HB1.out hb2)
    clear hb2
    go_wp2
    go_ret
    exact ⟨rfl, HB2.out⟩
  | false =>
    rw [hlong] at HLG
    by_cases h200 : 200 < (line.size : Int)
    · clear hlong
      go_enter Tryz.func4, Tryz.ntmps4
      go_wp2_with fail
      refine HLG.out.mono ?_
      rintro e w1 ⟨rfl, hb1⟩
      have HB1 := Lib.hid hb1
      clear hb1
      go_wp2_with fail
      refine (sane_any _ (HVR.out.below HB1.out)).mono ?_
      rintro e w2 ⟨rfl, hb2⟩
      have HB2 := Lib.hid (below_trans HB1.out hb2)
      clear hb2
      go_wp2
      go_ret
      exact ⟨rfl, HB2.out⟩
    · obtain ⟨hsz, hlen⟩ := longB_no hlong
      have HFS := Lib.hid hsz
      have HFL := Lib.hid (show lines.length ≤ 30 by omega)
      have HLS := Lib.hid (show line.size ≤ 1000000 by omega)
      clear hlong hsz hlen
      go_enter Tryz.func4, Tryz.ntmps4
      go_wp2_with fail
      refine HLG.out.mono ?_
      rintro e w1 ⟨rfl, hb1⟩
      have HW2 := Lib.hid (HWR.out w1 hb1 HFS.out HFL.out)
      have HB1 := Lib.hid hb1
      clear hb1
      go_wp2_with fail
      refine HW2.out.mono ?_
      rintro e w2 ⟨g, c, P, bs, rfl, hJ⟩
      have HSY := Lib.hid hJ.sys
      have HP2 : Hid (PsL w1.heap.size w2 [(P 0, 0, bs 0), (P 1, 1, bs 1), (P 2, 2, bs 2)]) := Lib.hid (hJ.ps.congr fun i hi => by
        rcases (show i = 0 ∨ i = 1 ∨ i = 2 by omega) with rfl | rfl | rfl <;> exact ⟨rfl, rfl, rfl⟩)
      have HR2 : Hid (PtrsAt w2 g c P) := Lib.hid ⟨⟨_, hJ.row⟩⟩
      have HB2 := Lib.hid (below_trans HB1.out hJ.below)
      have hnl : ∀ W, (binOp .eql 31 (.slice (some ⟨g, 0, none⟩) 3 c) (.slice none 0 0)).run Tryz.prog W = .ok (.bool false) W := fun W => slice_nil W g c
      have d2 := HR2.out.cell (j := 2) (by omega)
      clear hJ HW2
      go_wp2_with fail
      have HS2 := Lib.hid (seen_b HP2.out (i := 2) (by show 2 < 3; omega))
      rw [show (atL [(P 0, 0, bs 0), (P 1, 1, bs 1), (P 2, 2, bs 2)] 2).2.2 = bs 2 from rfl] at HS2
      refine HS2.out.mono ?_
      rintro e w3 ⟨rfl, hK⟩
      have HP3 := Lib.hid (HP2.out.below hK)
      have HR3 := Lib.hid (HR2.out.below hK)
      have HB3 := Lib.hid (below_trans HB2.out hK)
      obtain ⟨w4, hw4⟩ : ∃ w4, w4 = w3.alloc (.cells #[.int .i64 (lenI (bs 2) 0), .int .i64 (lenI (bs 2) 1), .int .i64 (lenI (bs 2) 2), .int .i64 (lenI (bs 2) 3)] 34) := ⟨_, rfl⟩
      have hb4 : Below w3.heap.size w3 w4 := by rw [hw4]; exact (Below.refl _ _).alloc (Nat.le_refl _) _
      have HQ4 : Hid (QAt w4 w3.heap.size (bs 2)) := Lib.hid (by rw [hw4]; exact World.alloc_heap_new _ _)
      have HP4 := Lib.hid (HP3.out.below hb4)
      have HR4 := Lib.hid (HR3.out.below hb4)
      have HB4 := Lib.hid (below_trans HB3.out hb4)
      have d4 := HR4.out.cell (j := 0) (by omega)
      obtain ⟨b1, hb1⟩ : ∃ b1, b1 = joinL (bs 2) (bs 0) := ⟨_, rfl⟩
      have hv1 : joinV (bs 2) (bs 0) = (0, b1) := by rw [hb1]; exact joinV_under (HSY.out.under (by omega)) (HSY.out.under (by omega))
      have HJ4 := Lib.hid (join_ok HP4.out (i := 2) (j := 0) (by show 2 < 3; omega) (by show 0 < 3; omega) hv1)
      have HBE := Lib.hid hb1
      have HW4 := Lib.hid hw4
      rw [hw4] at d4
      clear hK d2 hb4 hw4 hv1 hb1 HS2
      go_wp2_with fail
      rw [← HW4.out]
      refine HJ4.out.mono ?_
      rintro e w5 ⟨rfl, hA, hK⟩
      have HP5 : Hid (PsL w1.heap.size w5 [(P 0, 0, bs 0), (P 1, 1, bs 1), (P 2, 2, b1)]) := Lib.hid hA
      have HR5 := Lib.hid (HR4.out.kin hK)
      have HQ5 := Lib.hid (HQ4.out.kin hK)
      have HB5 := Lib.hid (HB4.out.trans ((Kin.below hK HP4.out.size).mono HB1.out.size))
      clear hA hK d4 HJ4 HP4 HR4 HQ4 HB4
      obtain ⟨q1, hq1⟩ : ∃ q1, q1 = cntB b1 := ⟨_, rfl⟩
      have HC5 := Lib.hid (count_l HP5.out (i := 2) (by show 2 < 3; omega))
      rw [show cntB (atL [(P 0, 0, bs 0), (P 1, 1, bs 1), (P 2, 2, b1)] 2).2.2 = q1 from hq1.symm] at HC5
      have HQ1 := Lib.hid hq1
      have HOK1 : Hid (BookOk b1) := Lib.hid (PsL.ok HP5.out (i := 2) (by show 2 < 3; omega))
      have hq1b : 0 ≤ q1 ∧ q1 ≤ 1000000 := by rw [hq1]; exact cntB_le HOK1.out
      clear hq1
      go_wp2_with fail
      refine HC5.out.mono ?_
      rintro e w6 ⟨rfl, hA, hK⟩
      have HP6 := Lib.hid hA
      have HR6 := Lib.hid (HR5.out.kin hK)
      have HQ6 := Lib.hid (HQ5.out.kin hK)
      have HB6 := Lib.hid (HB5.out.trans ((Kin.below hK HP5.out.size).mono HB1.out.size))
      have d6 := HR6.out.cell (j := 0) (by omega)
      obtain ⟨q0, hq0⟩ : ∃ q0, q0 = cntB (bs 0) := ⟨_, rfl⟩
      have HC6 := Lib.hid (count_l HP6.out (i := 0) (by show 0 < 3; omega))
      rw [show cntB (atL [(P 0, 0, bs 0), (P 1, 1, bs 1), (P 2, 2, b1)] 0).2.2 = q0 from hq0.symm] at HC6
      have hqq : ¬ q1 < q0 := by
        have h9 := (cnt_join (HSY.out.under (j := 2) (by omega)) (HSY.out.under (j := 0) (by omega)) (HSY.out.ok 2 (by omega)) (HSY.out.ok 0 (by omega))).2
        rw [HQ1.out, hq0, HBE.out]; omega
      clear hA hK HC5 hq0
      go_wp2_with fail
      refine HC6.out.mono ?_
      rintro e w7 ⟨rfl, hA, hK⟩
      have HP7 := Lib.hid hA
      have HR7 := Lib.hid (HR6.out.kin hK)
      have HQ7 := Lib.hid (HQ6.out.kin hK)
      have HB7 := Lib.hid (HB6.out.trans ((Kin.below hK HP6.out.size).mono HB1.out.size))
      clear hA hK d6 HC6
      obtain ⟨r, hr⟩ : ∃ r, r = doB b1 2 line := ⟨_, rfl⟩
      have HD7 := Lib.hid (do_l HP7.out (i := 2) (by show 2 < 3; omega) line HLS.out)
      rw [show doB (atL [(P 0, 0, bs 0), (P 1, 1, bs 1), (P 2, 2, b1)] 2).2.2 (atL [(P 0, 0, bs 0), (P 1, 1, bs 1), (P 2, 2, b1)] 2).2.1 line = r from hr.symm] at HD7
      have HRE := Lib.hid hr
      clear hr
      go_wp2_with fail
      refine HD7.out.mono ?_
      rintro e w8 ⟨rfl, hA, hK⟩
      have HP8 : Hid (PsL w1.heap.size w8 [(P 0, 0, bs 0), (P 1, 1, bs 1), (P 2, 2, r.2.2)]) := Lib.hid hA
      have HR8 := Lib.hid (HR7.out.kin hK)
      have HQ8 := Lib.hid (HQ7.out.kin hK)
      have HB8 := Lib.hid (HB7.out.trans ((Kin.below hK HP7.out.size).mono HB1.out.size))
      clear hA hK HD7
      have HBK := Lib.hid (book_l HP8.out (i := 2) (by show 2 < 3; omega))
      rw [show allB (atL [(P 0, 0, bs 0), (P 1, 1, bs 1), (P 2, 2, r.2.2)] 2).2.2 = allB r.2.2 from rfl] at HBK
      generalize hal : allB r.2.2 = al at *
      have HAL := Lib.hid hal
      clear hal
      go_wp2_with fail
      refine HBK.out.mono ?_
      rintro e w9 ⟨ba, bc, rfl, hl9, hA, hK⟩
      have HP9 := Lib.hid hA
      have HL9 := Lib.hid hl9
      have HR9 := Lib.hid (HR8.out.kin hK)
      have HQ9 := Lib.hid (HQ8.out.kin hK)
      have HB9 := Lib.hid (HB8.out.trans ((Kin.below hK HP8.out.size).mono HB1.out.size))
      clear hA hK hl9 HBK HP5 HP6 HP7 HP8 HR5 HR6 HR7 HR8 HQ5 HQ6 HQ7 HQ8 HB5 HB6 HB7 HB8 HP2 HP3 HR2 HR3 HB2 HB3
      go_upto_region 15 with fail
      obtain ⟨ra, re, rb⟩ := r
      have rl0 : ∀ W, KB w9 W → W.cell? ⟨g, 0, none⟩ = some (.pointer (some ⟨P 0, 0, none⟩)) := fun W hW => (HR9.out.below hW).cell (by omega)
      have HSA := Lib.hid (fun W (hW : KB w9 W) => seen_b (HP9.out.below hW) (i := 2) (by show 2 < 3; omega))
      have HSB := Lib.hid (fun W (hW : KB w9 W) => seen_b (HP9.out.below hW) (i := 0) (by show 0 < 3; omega))
      have HSA : Hid (∀ W, KB w9 W → Calls Tryz.prog 21 #[.pointer (some ⟨P 2, 0, none⟩)] W (SeenI rb W)) := HSA
      have HSB : Hid (∀ W, KB w9 W → Calls Tryz.prog 21 #[.pointer (some ⟨P 0, 0, none⟩)] W (SeenI (bs 0) W)) := HSB
      unfold SeenI at HSA HSB
      go_cut [14, 15] (fun s14 s15 wx => TwoQ w9 rb (bs 0) s14 s15 wx)
      case first =>
       go_region_held3 (fun W => KB w9 W) (repeat (first | (with_reducible assumption) | (with_reducible exact KB.refl _) | (with_reducible refine kb_set ?_ (by omega)) | (with_reducible refine KB.alloc ?_ _) | (with_reducible refine KB.drew ?_))) (first
        | (go_at_call 21; (with_reducible refine (HSA.out w9.drew (KB.drew (KB.refl _))).mono ?_); rintro e wa ⟨rfl, ka⟩; have kk : KB w9 wa := KB.call (KB.drew (KB.refl _)) ka; have sa : w9.heap.size ≤ wa.heap.size := KB.size kk; clear ka)
        | (go_at_call 21; (with_reducible refine (HSA.out (w9.alloc (.cells #[.int .i64 0, .int .i64 0, .int .i64 0, .int .i64 0] 34)).drew (KB.drew (KB.alloc (KB.refl _) _))).mono ?_); rintro e wa ⟨rfl, ka⟩; have kk : KB w9 wa := KB.call (KB.drew (KB.alloc (KB.refl _) _)) ka; have hz0 := z_one ka; have na0 := z_lt hz0; have sa : w9.heap.size ≤ wa.heap.size := KB.size kk; clear ka)
        | (go_at_call 21; (with_reducible refine (HSA.out ((w9.alloc (.cells #[.int .i64 0, .int .i64 0, .int .i64 0, .int .i64 0] 34)).alloc (.cells #[.int .i64 0, .int .i64 0, .int .i64 0, .int .i64 0] 34)).drew (KB.drew (KB.alloc (KB.alloc (KB.refl _) _) _))).mono ?_); rintro e wa ⟨rfl, ka⟩; have kk : KB w9 wa := KB.call (KB.drew (KB.alloc (KB.alloc (KB.refl _) _) _)) ka; have hz0 := (z_two ka).1; have hz1 := (z_two ka).2; have sa : w9.heap.size ≤ wa.heap.size := KB.size kk; clear ka)
        | (go_at_call 21; (with_reducible refine (HSB.out wa kk).mono ?_); rintro e wb ⟨rfl, kb⟩; have kk2 : KB w9 wb := KB.call kk kb; have yz1 := z_keep hz1 kb; have yz0 := z_keep hz0 kb; obtain ⟨⟨cp0, cp1, cp2, cp3⟩, fp⟩ := z_cells yz0; obtain ⟨⟨cq0, cq1, cq2, cq3⟩, fq⟩ := z_cells yz1; have sb : wa.heap.size ≤ wb.heap.size := kb.size; clear kb)
        | (go_at_call 21; (with_reducible refine (HSB.out wa kk).mono ?_); rintro e wb ⟨rfl, kb⟩; have kk2 : KB w9 wb := KB.call kk kb; have yz0 := z_keep hz0 kb; obtain ⟨⟨cp0, cp1, cp2, cp3⟩, fp⟩ := z_cells yz0; obtain ⟨⟨dp0, dp1, dp2, dp3⟩, ep⟩ := z_cells (z_alloc yz0 ((.cells #[.int .i64 0, .int .i64 0, .int .i64 0, .int .i64 0] 34) : Obj)); have lp := (z_lt3 yz0).1; have mp := (z_lt3 yz0).2; have sb : wa.heap.size ≤ wb.heap.size := kb.size; clear kb)
        | (go_at_call 21; (with_reducible refine (HSB.out wa kk).mono ?_); rintro e wb ⟨rfl, kb⟩; have kk2 : KB w9 wb := KB.call kk kb; have sb : wa.heap.size ≤ wb.heap.size := kb.size; clear kb)
        | (go_at_call 21; (with_reducible refine (HSB.out (wa.alloc (.cells #[.int .i64 0, .int .i64 0, .int .i64 0, .int .i64 0] 34)) (KB.alloc kk _)).mono ?_); rintro e wb ⟨rfl, kb⟩; have kk2 : KB w9 wb := KB.call (KB.alloc kk _) kb; have yz2 := z_new kb; have yz0 := z_keep (z_alloc hz0 _) kb; have na1 := na0.1; have na2 := na0.2; obtain ⟨⟨cp0, cp1, cp2, cp3⟩, fp⟩ := z_cells yz0; obtain ⟨⟨cq0, cq1, cq2, cq3⟩, fq⟩ := z_cells yz2; have sb : wa.heap.size ≤ wb.heap.size := sz_one kb; clear kb)
        | (go_at_call 21; (with_reducible refine (HSB.out (wa.alloc (.cells #[.int .i64 0, .int .i64 0, .int .i64 0, .int .i64 0] 34)) (KB.alloc kk _)).mono ?_); rintro e wb ⟨rfl, kb⟩; have kk2 : KB w9 wb := KB.call (KB.alloc kk _) kb; have yz2 := z_new kb; obtain ⟨⟨cp0, cp1, cp2, cp3⟩, fp⟩ := z_cells yz2; obtain ⟨⟨dp0, dp1, dp2, dp3⟩, ep⟩ := z_cells (z_alloc yz2 ((.cells #[.int .i64 0, .int .i64 0, .int .i64 0, .int .i64 0] 34) : Obj)); have lp := (z_lt3 yz2).1; have mp := (z_lt3 yz2).2; have sb : wa.heap.size ≤ wb.heap.size := sz_one kb; clear kb)
        | (go_at_call 21; (with_reducible refine (HSB.out ((wa.alloc (.cells #[.int .i64 0, .int .i64 0, .int .i64 0, .int .i64 0] 34)).alloc (.cells #[.int .i64 0, .int .i64 0, .int .i64 0, .int .i64 0] 34)) (KB.alloc (KB.alloc kk _) _)).mono ?_); rintro e wb ⟨rfl, kb⟩; have kk2 : KB w9 wb := KB.call (KB.alloc (KB.alloc kk _) _) kb; have yz2 := (z_new2 kb).1; have yz3 := (z_new2 kb).2; obtain ⟨⟨cp0, cp1, cp2, cp3⟩, fp⟩ := z_cells yz2; obtain ⟨⟨cq0, cq1, cq2, cq3⟩, fq⟩ := z_cells yz3; have sb : wa.heap.size ≤ wb.heap.size := sz_two kb; clear kb)
        | fail)
       all_goals (go_wp2_with fail; go_meet)
       all_goals (first
         | with_reducible exact tq1 kk2
         | with_reducible exact tq2 kk2
         | with_reducible exact tq3 kk2 yz0 (by omega)
         | with_reducible exact tq3 kk2 yz2 (by omega)
         | with_reducible exact tq4 kk2 yz0 (by omega)
         | with_reducible exact tq4 kk2 yz2 (by omega)
         | with_reducible exact tq5 kk2 yz2 yz3 (by omega) (by omega) (by omega)
         | with_reducible exact tq5 kk2 yz3 yz2 (by omega) (by omega) (by omega)
         | with_reducible exact tq5 kk2 yz0 yz2 (by omega) (by omega) (by omega)
         | with_reducible exact tq5 kk2 yz2 yz0 (by omega) (by omega) (by omega)
         | with_reducible exact tq5 kk2 yz0 yz1 (by omega) (by omega) (by omega)
         | with_reducible exact tq5 kk2 yz1 yz0 (by omega) (by omega) (by omega)
         | fail)
      case rest =>
       obtain ⟨g1, g2, rfl, rfl, hq1, hq2, hk⟩ := hcut
       have HPc := Lib.hid (HP9.out.below hk)
       have HLc := Lib.hid (HL9.out.ents (by
         have h9 : al.length ≤ 240 := by rw [← HAL.out, allB_len]; exact lenB_le (PsL.ok HP9.out (i := 2) (by show 2 < 3; omega))
         omega))
       have HEc := Lib.hid (HLc.out.below hk)
       have HQ1c := Lib.hid hq1
       have HQ2c := Lib.hid hq2
       have HQ0c := Lib.hid (HQ9.out.below hk)
       have HBc := Lib.hid (below_trans HB9.out hk)
       clear hq1 hq2 hk rl0 HSA HSB HLc
       have HG1 : Hid (∀ i, i < 4 → lenI (bs 2) i ≤ lenI rb i ∧ lenI (bs 0) i ≤ lenI rb i) := Lib.hid (fun i hi => by
         have h1 := doB_grow b1 2 line i
         rw [← HRE.out] at h1
         have h2 := join_len (bs 2) (bs 0) i
         rw [← HBE.out] at h2
         unfold lenI
         simp only at h1
         omega)
       go_wp2_with fail
       obtain ⟨g0, hg0⟩ : ∃ g0, g0 = w3.heap.size := ⟨_, rfl⟩
       rw [← hg0]
       rw [← hg0] at HQ0c
       clear hg0
       go_loopw [16] (fun i wr => ∃ k : Nat, k ≤ 4 ∧ i = .int .i64 k ∧ Below wc.heap.size wc wr) (fun i _ => 4 - (intOf i).toNat)
       case atStart => exact ⟨0, Nat.zero_le _, rfl, Below.refl _ _⟩
       case round =>
         obtain ⟨k, hk, rfl, hbel⟩ := hrel
         have HBL := Lib.hid hbel
         by_cases hlt : k < 4
         · have hlt2 : (k : Int) < 4 := by omega
           have hk0 : (0 : Int) ≤ (k : Int) := by omega
           have x1 := keep_cell hbel (HQ1c.out.cell hlt)
           have x2 := keep_cell hbel (HQ0c.out.cell hlt)
           have x3 := keep_cell hbel (HQ2c.out.cell hlt)
           have hg := HG1.out k hlt
           generalize lenI rb k = p1 at *
           generalize lenI (bs 2) k = p2 at *
           generalize lenI (bs 0) k = p3 at *
           have hd1 : decide (p1 < p2) = false := by rw [decide_eq_false_iff_not]; omega
           have hd2 : decide (p1 < p3) = false := by rw [decide_eq_false_iff_not]; omega
           clear hbel hg
           go_wp2_with fail
           go_quiet (fail)
           go_wp2
           go_roundw
           case rel => exact ⟨k + 1, by omega, by go_num, belowD HBL.out _⟩
           case measure => simp [intOf]; omega
         · have e : k = 4 := by omega
           have HPr := Lib.hid (HPc.out.below hbel)
           have HEr := Lib.hid (HEc.out.below hbel)
           have HBr := Lib.hid (below_trans HBc.out hbel)
           clear hbel
           by_cases hz : re = 0
           · subst hz
             have HDO : Hid (rb = addAt b1 2 (newE b1 2 line)) := Lib.hid (by
               have h9 := doB_done (b := b1) (n := 2) (line := line) (by rw [← HRE.out])
               rw [← HRE.out] at h9
               exact h9)
             have hall : al = allB b1 ++ [newE b1 2 line] := by rw [← HAL.out, ← allB_add HOK1.out (by omega) line, ← HDO.out]
             obtain ⟨ea, ec, hev, hel, hce⟩ := HEr.out
             obtain ⟨j, hj⟩ : ∃ j, j = (allB b1).length := ⟨_, rfl⟩
             have hn : al.length = j + 1 := by rw [hall, hj]; simp
             obtain ⟨eb, eo, rfl, hcells⟩ := hce (by omega)
             simp only [Value.slice.injEq] at hev
             obtain ⟨rfl, -, rfl⟩ := hev
             have hat : al[j]'(by omega) = newE b1 2 line := by simp [hall, hj]
             have y0 := hcells j 0 (.int .i64 2) (by omega) (by rw [rowE_at al j 0 (by omega) (by omega), hat]; rfl)
             have y2 := hcells j 2 (.int .i64 (q1 + 1)) (by omega) (by rw [rowE_at al j 2 (by omega) (by omega), hat, HQ1.out]; rfl)
             have y3 := hcells j 3 (.string line) (by omega) (by rw [rowE_at al j 3 (by omega) (by omega), hat]; rfl)
             rw [Nat.add_zero] at y0
             obtain ⟨m, hm⟩ : ∃ m, m = al.length := ⟨_, rfl⟩
             rw [← hm] at hel ⊢
             have hmj : (m : Int) = (j : Int) + 1 := by omega
             have HMJ := Lib.hid hmj
             have hw1 : IntKind.i64.wrap ((m : Int) - 1) = (j : Int) := by rw [show (m : Int) - 1 = (j : Int) by omega]; exact IntWalk.i64_in _ (by omega)
             have hm0 : (0 : Int) < (m : Int) := by omega
             have hj0 : (0 : Int) ≤ (j : Int) := by omega
             have hjm : (j : Int) < (m : Int) := by omega
             have hwq : IntKind.i64.wrap (q1 + 1) = q1 + 1 := IntWalk.i64_in _ (by omega)
             have HCr := Lib.hid (count_l HPr.out (i := 2) (by show 2 < 3; omega))
             rw [show cntB (atL [(P 0, 0, bs 0), (P 1, 1, bs 1), (P 2, 2, rb)] 2).2.2 = q1 + 1 from by
               show cntB rb = q1 + 1
               rw [HDO.out, HQ1.out, cntB_add HOK1.out (by omega)]] at HCr
             clear hall hj hn hcells hat hm hmj hel
             go_wp2_with fail
             refine HCr.out.mono ?_
             rintro e w11 ⟨rfl, hA, hK⟩
             have HPz := Lib.hid hA
             have HBz := Lib.hid (HBr.out.trans ((Kin.below hK HPr.out.size).mono HB1.out.size))
             clear hA hK HCr
             go_wp2_with fail
             refine (sane_l HPz.out).mono ?_
             rintro e w12 ⟨rfl, hA, hK⟩
             have HBy := Lib.hid (HBz.out.trans ((Kin.below hK HPz.out.size).mono HB1.out.size))
             clear hA hK
             go_wp2
             go_ret
             exact ⟨rfl, HBy.out⟩
           · have hno := doB_not (b := b1) (n := 2) (line := line) (by rw [← HRE.out]; exact hz)
             rw [← HRE.out] at hno
             obtain ⟨h1, h2⟩ := hno
             simp only at h1 h2
             subst h1
             subst h2
             have hz1 : (re != 0) = true := by simpa using hz
             have HCr := Lib.hid (count_l HPr.out (i := 2) (by show 2 < 3; omega))
             rw [show cntB (atL [(P 0, 0, bs 0), (P 1, 1, bs 1), (P 2, 2, rb)] 2).2.2 = q1 from HQ1.out.symm] at HCr
             clear hz
             unfold emp
             go_wp2_with fail
             refine HCr.out.mono ?_
             rintro e w11 ⟨rfl, hA, hK⟩
             have HPz := Lib.hid hA
             have HBz := Lib.hid (HBr.out.trans ((Kin.below hK HPr.out.size).mono HB1.out.size))
             clear hA hK HCr
             go_wp2_with fail
             refine (sane_l HPz.out).mono ?_
             rintro e w12 ⟨rfl, hA, hK⟩
             have HBy := Lib.hid (HBz.out.trans ((Kin.below hK HPz.out.size).mono HB1.out.size))
             clear hA hK
             go_wp2
             go_ret
             exact ⟨rfl, HBy.out⟩
end Go.Proofs.YtdfkaijeppdhaaaGreatDoor

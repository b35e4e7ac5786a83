/- What the walk of the law FundOld wants. -/
import Derived.Test.YtaakefjblldccaaMg
import Derived.Test.YtaakefjblldccaaLawB
import Derived.Deep.RegionHeld3
import Derived.Deep.DeepCutAuto
namespace Go.Proofs.Ytaakefjblldccaa
open Go.RowKit

theorem agV_ae2 {c : List Int} {n : Int} {l : List Rat2} (ha : askE c n = 0) : (agV c n l = true ∧ awE c n l = 0) ∨ (agV c n l = false ∧ (awE c n l = 0 ∨ awE c n l = 2)) := by
  cases h : agV c n l with
  | true =>
    unfold agV at h
    rw [Bool.and_eq_true] at h
    have h1 := h.1
    unfold sV at h1
    rw [Bool.and_eq_true, decide_eq_true_iff] at h1
    exact .inl ⟨rfl, h1.1⟩
  | false =>
    refine .inr ⟨rfl, ?_⟩
    unfold awE
    rw [if_pos ha]
    split
    · exact .inl rfl
    · exact .inr rfl
theorem agV_arA {c : List Int} {n : Int} {l : List Rat2} (h : agV c n l = true) : arA c l = true := by
  unfold agV at h
  rw [Bool.and_eq_true] at h
  exact (sV_parts h.1).2.1
theorem two_facts {c : List Int} {n : Int} (ha : askE c n = 0) (h2 : c.length = 2) :
    shareL c n 4 = twoL (c.getD 0 0) (c.getD 1 0) n ∧ midL c n = twoL (c.getD 0 0) (c.getD 1 0) n ∧ garOk (c.getD 0 0) (c.getD 1 0) n = true ∧ midE c n = 0 := by
  obtain ⟨hc, h0, ht⟩ := askE_ok2 ha
  match c, h2 with
  | [a, b], _ =>
    have hA := hc.holds a (by simp)
    have hB := hc.holds b (by simp)
    have ht' : n ≤ a + b := by
      have : tot [a, b] = a + b := by simp [tot]
      omega
    refine ⟨old_two hc h0 ht, mid_two hA.1 hB.1 h0 ht', ?_, by unfold midE; rw [if_pos ha]; rfl⟩
    show garOk a b n = true
    unfold garOk
    rw [(betw_iff _ _ _).2 hA, (betw_iff _ _ _).2 hB, (betw_iff _ _ _).2 ⟨h0, ht'⟩]
    rfl

theorem after1 {w w5 : World} {x y : Value} {t : TypeId} (h : Below ((w.alloc (.cells #[x, y] t)).drew).heap.size ((w.alloc (.cells #[x, y] t)).drew) w5) :
    (w.heap.size ≤ w5.heap.size ∧ w.heap.size < w5.heap.size ∧ w.heap.size < w5.heap.size + 1) ∧ w5.cell? ⟨w.heap.size, 0, none⟩ = some x ∧ w5.cell? ⟨w.heap.size, 1, none⟩ = some y ∧ w5.frozen? ⟨w.heap.size, 0, none⟩ = false ∧ w5.frozen? ⟨w.heap.size, 1, none⟩ = false := by
  have hs : (w.alloc (.cells #[x, y] t)).heap.size = w.heap.size + 1 := by simp
  have h1 : w.heap.size + 1 ≤ w5.heap.size := by have := h.size; rw [World.size_drew, hs] at this; exact this
  have hb : w5.heap[w.heap.size]? = some (.cells #[x, y] t (0, 0)) := (h.block _ (by rw [World.size_drew, hs]; omega)).trans (World.alloc_heap_new w _)
  refine ⟨⟨by omega, by omega, by omega⟩, ?_, ?_, ?_, ?_⟩ <;> simp [World.cell?, World.frozen?, hb]
theorem after2 {w w5 : World} {x y x' y' : Value} {t t' : TypeId} (h : Below (((w.alloc (.cells #[x, y] t)).alloc (.cells #[x', y'] t')).drew).heap.size (((w.alloc (.cells #[x, y] t)).alloc (.cells #[x', y'] t')).drew) w5) :
    (w.heap.size ≤ w5.heap.size ∧ w.heap.size < w5.heap.size ∧ w.heap.size < w5.heap.size + 1 ∧ w.heap.size + 1 ≤ w5.heap.size ∧ w.heap.size + 1 < w5.heap.size ∧ w.heap.size + 1 < w5.heap.size + 1) ∧ w5.cell? ⟨w.heap.size, 0, none⟩ = some x ∧ w5.cell? ⟨w.heap.size, 1, none⟩ = some y ∧ w5.frozen? ⟨w.heap.size, 0, none⟩ = false ∧ w5.frozen? ⟨w.heap.size, 1, none⟩ = false ∧
      w5.cell? ⟨w.heap.size + 1, 0, none⟩ = some x' ∧ w5.cell? ⟨w.heap.size + 1, 1, none⟩ = some y' ∧ w5.frozen? ⟨w.heap.size + 1, 0, none⟩ = false ∧ w5.frozen? ⟨w.heap.size + 1, 1, none⟩ = false := by
  have hs : (w.alloc (.cells #[x, y] t)).heap.size = w.heap.size + 1 := by simp
  have hs2 : ((w.alloc (.cells #[x, y] t)).alloc (.cells #[x', y'] t')).heap.size = w.heap.size + 2 := by simp
  have h1 : w.heap.size + 2 ≤ w5.heap.size := by have := h.size; rw [World.size_drew, hs2] at this; exact this
  have hb : w5.heap[w.heap.size]? = some (.cells #[x, y] t (0, 0)) := (h.block _ (by rw [World.size_drew, hs2]; omega)).trans ((Below.heap_alloc _ _ _ (by rw [hs]; omega)).trans (World.alloc_heap_new w _))
  have hb2 : w5.heap[w.heap.size + 1]? = some (.cells #[x', y'] t' (0, 0)) := (h.block _ (by rw [World.size_drew, hs2]; omega)).trans (by rw [← hs]; exact World.alloc_heap_new _ _)
  refine ⟨⟨by omega, by omega, by omega, by omega, by omega, by omega⟩, ?_, ?_, ?_, ?_, ?_, ?_, ?_, ?_⟩ <;> simp [World.cell?, World.frozen?, hb, hb2]

/-- Two cells of a block. -/
def Has (W : World) (g : Nat) (p q : Value) : Prop := W.cell? ⟨g, 0, none⟩ = some p ∧ W.cell? ⟨g, 1, none⟩ = some q
theorem Has.new (W : World) (p q : Value) (t : TypeId) : Has (W.alloc (.cells #[p, q] t)) W.heap.size p q := by constructor <;> simp
theorem Has.alloc {W : World} {g : Nat} {p q : Value} (h : Has W g p q) (o : Obj) : Has (W.alloc o) g p q :=
  have hb : Below W.heap.size W (W.alloc o) := (Below.refl _ _).alloc (Nat.le_refl _) _
  ⟨keep_cell hb h.1, keep_cell hb h.2⟩
theorem Has.put {W : World} {g h o : Nat} {p q v : Value} (hh : Has W g p q) (hne : g ≠ h) : Has (W.setCell ⟨h, o, none⟩ v) g p q :=
  ⟨(World.cell?_setCell_other _ _ _ _ (by simp [hne])).trans hh.1, (World.cell?_setCell_other _ _ _ _ (by simp [hne])).trans hh.2⟩
theorem Has.set {W : World} {g : Nat} {p q x y : Value} (h0 : W.cell? ⟨g, 0, none⟩ = some x) (h1 : W.cell? ⟨g, 1, none⟩ = some y) : Has ((W.setCell ⟨g, 0, none⟩ p).setCell ⟨g, 1, none⟩ q) g p q := by
  have e1 : (W.setCell ⟨g, 0, none⟩ p).cell? ⟨g, 1, none⟩ = some y := (World.cell?_setCell_other _ _ _ _ (by simp)).trans h1
  exact ⟨(World.cell?_setCell_other _ _ _ _ (by simp)).trans (World.cell?_setCell_same' _ _ _ (by rw [h0]; rfl)), World.cell?_setCell_same' _ _ _ (by rw [e1]; rfl)⟩
/-- What lies there behind Garment. -/
def OldTwo (wr : World) (p0 q0 p1 q1 : Int) (s8 s14 s15 : Value) (wx : World) : Prop :=
  ∃ g h : Nat, s8 = .int .i64 0 ∧ s14 = .pointer (some ⟨g, 0, none⟩) ∧ s15 = .pointer (some ⟨h, 0, none⟩) ∧ Has wx g (.int .i64 p0) (.int .i64 q0) ∧ Has wx h (.int .i64 p1) (.int .i64 q1) ∧ KB wr wx
section forms
variable {wr w5 : World} {p0 q0 p1 q1 : Int} {t t' : TypeId} {x y x' y' : Value}
theorem kbSet {b o : Nat} {v : Value} (h : KB wr w5) (hb : wr.heap.size ≤ b) : KB wr (w5.setCell ⟨b, o, none⟩ v) := Below.setCell h hb _
theorem two1 (k : KB wr w5) : OldTwo wr p0 q0 p1 q1 (.int .i64 0) (.pointer (some ⟨w5.heap.size, 0, none⟩)) (.pointer (some ⟨w5.heap.size + 1, 0, none⟩)) ((w5.alloc (.cells #[.int .i64 p0, .int .i64 q0] t)).alloc (.cells #[.int .i64 p1, .int .i64 q1] t')) := by
  refine ⟨_, _, rfl, rfl, rfl, (Has.new _ _ _ _).alloc _, ?_, KB.alloc (KB.alloc k _) _⟩
  have := Has.new (w5.alloc (.cells #[.int .i64 p0, .int .i64 q0] t)) (.int .i64 p1) (.int .i64 q1) t'
  rwa [World.size_alloc] at this
theorem two2 (k : KB wr w5) : OldTwo wr p0 q0 p1 q1 (.int .i64 0) (.pointer (some ⟨w5.heap.size + 1, 0, none⟩)) (.pointer (some ⟨w5.heap.size, 0, none⟩)) ((w5.alloc (.cells #[.int .i64 p1, .int .i64 q1] t)).alloc (.cells #[.int .i64 p0, .int .i64 q0] t')) := by
  refine ⟨_, _, rfl, rfl, rfl, ?_, (Has.new _ _ _ _).alloc _, KB.alloc (KB.alloc k _) _⟩
  have := Has.new (w5.alloc (.cells #[.int .i64 p1, .int .i64 q1] t)) (.int .i64 p0) (.int .i64 q0) t'
  rwa [World.size_alloc] at this
theorem two3 (k : KB wr w5) (a0 : w5.cell? ⟨wr.heap.size, 0, none⟩ = some x) (a1 : w5.cell? ⟨wr.heap.size, 1, none⟩ = some y) :
    OldTwo wr p0 q0 p1 q1 (.int .i64 0) (.pointer (some ⟨wr.heap.size, 0, none⟩)) (.pointer (some ⟨w5.heap.size, 0, none⟩)) (((w5.setCell ⟨wr.heap.size, 0, none⟩ (.int .i64 p0)).setCell ⟨wr.heap.size, 1, none⟩ (.int .i64 q0)).alloc (.cells #[.int .i64 p1, .int .i64 q1] t)) := by
  refine ⟨_, _, rfl, rfl, rfl, (Has.set a0 a1).alloc _, ?_, KB.alloc (kbSet (kbSet k (Nat.le_refl _)) (Nat.le_refl _)) _⟩
  have := Has.new ((w5.setCell ⟨wr.heap.size, 0, none⟩ (.int .i64 p0)).setCell ⟨wr.heap.size, 1, none⟩ (.int .i64 q0)) (.int .i64 p1) (.int .i64 q1) t
  simpa using this
theorem two5 (k : KB wr w5) (a0 : w5.cell? ⟨wr.heap.size, 0, none⟩ = some x) (a1 : w5.cell? ⟨wr.heap.size, 1, none⟩ = some y) :
    OldTwo wr p0 q0 p1 q1 (.int .i64 0) (.pointer (some ⟨w5.heap.size, 0, none⟩)) (.pointer (some ⟨wr.heap.size, 0, none⟩)) (((w5.setCell ⟨wr.heap.size, 0, none⟩ (.int .i64 p1)).setCell ⟨wr.heap.size, 1, none⟩ (.int .i64 q1)).alloc (.cells #[.int .i64 p0, .int .i64 q0] t)) := by
  refine ⟨_, _, rfl, rfl, rfl, ?_, (Has.set a0 a1).alloc _, KB.alloc (kbSet (kbSet k (Nat.le_refl _)) (Nat.le_refl _)) _⟩
  have := Has.new ((w5.setCell ⟨wr.heap.size, 0, none⟩ (.int .i64 p1)).setCell ⟨wr.heap.size, 1, none⟩ (.int .i64 q1)) (.int .i64 p0) (.int .i64 q0) t
  simpa using this
theorem two4 (k : KB wr w5) (a0 : w5.cell? ⟨wr.heap.size, 0, none⟩ = some x) (a1 : w5.cell? ⟨wr.heap.size, 1, none⟩ = some y) (b0 : w5.cell? ⟨wr.heap.size + 1, 0, none⟩ = some x') (b1 : w5.cell? ⟨wr.heap.size + 1, 1, none⟩ = some y') :
    OldTwo wr p0 q0 p1 q1 (.int .i64 0) (.pointer (some ⟨wr.heap.size, 0, none⟩)) (.pointer (some ⟨wr.heap.size + 1, 0, none⟩)) ((((w5.setCell ⟨wr.heap.size, 0, none⟩ (.int .i64 p0)).setCell ⟨wr.heap.size, 1, none⟩ (.int .i64 q0)).setCell ⟨wr.heap.size + 1, 0, none⟩ (.int .i64 p1)).setCell ⟨wr.heap.size + 1, 1, none⟩ (.int .i64 q1)) := by
  have h1 : Has w5 (wr.heap.size + 1) x' y' := ⟨b0, b1⟩
  have h2 := (h1.put (h := wr.heap.size) (o := 0) (v := .int .i64 p0) (by omega)).put (h := wr.heap.size) (o := 1) (v := .int .i64 q0) (by omega)
  exact ⟨_, _, rfl, rfl, rfl, ((Has.set a0 a1).put (by omega)).put (by omega), Has.set h2.1 h2.2, kbSet (kbSet (kbSet (kbSet k (Nat.le_refl _)) (Nat.le_refl _)) (Nat.le_succ _)) (Nat.le_succ _)⟩
theorem two6 (k : KB wr w5) (a0 : w5.cell? ⟨wr.heap.size, 0, none⟩ = some x) (a1 : w5.cell? ⟨wr.heap.size, 1, none⟩ = some y) (b0 : w5.cell? ⟨wr.heap.size + 1, 0, none⟩ = some x') (b1 : w5.cell? ⟨wr.heap.size + 1, 1, none⟩ = some y') :
    OldTwo wr p0 q0 p1 q1 (.int .i64 0) (.pointer (some ⟨wr.heap.size + 1, 0, none⟩)) (.pointer (some ⟨wr.heap.size, 0, none⟩)) ((((w5.setCell ⟨wr.heap.size + 1, 0, none⟩ (.int .i64 p0)).setCell ⟨wr.heap.size + 1, 1, none⟩ (.int .i64 q0)).setCell ⟨wr.heap.size, 0, none⟩ (.int .i64 p1)).setCell ⟨wr.heap.size, 1, none⟩ (.int .i64 q1)) := by
  have h1 : Has w5 wr.heap.size x y := ⟨a0, a1⟩
  have h2 := (h1.put (h := wr.heap.size + 1) (o := 0) (v := .int .i64 p0) (by omega)).put (h := wr.heap.size + 1) (o := 1) (v := .int .i64 q0) (by omega)
  exact ⟨_, _, rfl, rfl, rfl, ((Has.set b0 b1).put (by omega)).put (by omega), Has.set h2.1 h2.2, kbSet (kbSet (kbSet (kbSet k (Nat.le_succ _)) (Nat.le_succ _)) (Nat.le_refl _)) (Nat.le_refl _)⟩
end forms

end Go.Proofs.Ytaakefjblldccaa

/- Contracts: slices.Equal and slices.Clone at entries. -/
import Derived.Test.YtdfkaijeppdhaaaGreatDoorEw
import Derived.Laws.StructEq
namespace Go.Proofs.YtdfkaijeppdhaaaGreatDoor
open Go.RowKit Go.Shelf Go.Proofs

def eqE (x y : Ent) : Bool := x.1 == y.1 && (x.2.1 == y.2.1 && (x.2.2.1 == y.2.2.1 && x.2.2.2.toList == y.2.2.2.toList))
theorem eqE_iff (x y : Ent) : eqE x y = true ↔ x = y := by
  obtain ⟨a, b, c, d⟩ := x
  obtain ⟨a', b', c', d'⟩ := y
  unfold eqE
  simp only [Bool.and_eq_true, beq_iff_eq, Prod.mk.injEq]
  refine and_congr_right fun _ => and_congr_right fun _ => and_congr_right fun _ => ⟨fun h => ?_, fun h => by rw [h]⟩
  rw [ba_list, ba_list] at h
  exact ba_ext h
set_option maxHeartbeats 1000000 in
theorem neqE : NeqAt Tryz.prog 43 (fun x : Ent => .agg (entC x).toArray) eqE := by
  refine ⟨fun x y w => ?_, GuardAt.agg _ (by kernel_rfl)⟩
  have u3 := Tryz.underlying3
  have a3 := Tryz.isAgg3
  have z3 := Tryz.sizeOf3
  have u9 := Tryz.underlying9
  have a9 := Tryz.isAgg9
  have z9 := Tryz.sizeOf9
  have hS : Tryz.prog.underlying 43 = some (.struct (Tryz.prog.fieldsOf 43)) := by kernel_rfl
  have hp : Tryz.prog.stoodInHeld 43 = false := by kernel_rfl
  obtain ⟨a, b, c, d⟩ := x
  obtain ⟨a', b', c', d'⟩ := y
  simp only [entC, ePost, eNum, eCnt, eLine, eqE]
  rw [run_neq_struct, show (10000 : Nat) = 9999 + 1 from rfl, run_equalIn_agg w 9999 43 _ _ hS hp]
  simp only [Program.fieldsOf, Tryz.underlying43]
  go_simp
  by_cases h1 : a = a' <;> by_cases h2 : b = b' <;> by_cases h3 : c = c' <;> by_cases h4 : d.toList = d'.toList <;> simp [h1, h2, h3, h4]
theorem allEq_iff : ∀ (xs ys : List Ent), xs.length = ys.length → (Lib.allEq eqE xs ys = true ↔ xs = ys)
  | [], [], _ => by simp [Lib.allEq]
  | x :: xs, y :: ys, h => by
    have ih := allEq_iff xs ys (by simpa using h)
    unfold Lib.allEq
    rw [Bool.and_eq_true, eqE_iff, ih, List.cons.injEq]
set_option maxHeartbeats 1000000 in
/-- slices.Equal of as many entries. -/
theorem equal_any (xs ys : List Ent) (n c1 c2 : Nat) (a1 a2 : Option Addr) (hn : xs.length = n) (hn2 : ys.length = n) (hbig : n ≤ 1000) (w : World) (h1 : EntsAt w (.slice a1 n c1) xs) (h2 : EntsAt w (.slice a2 n c2) ys) :
    Calls Tryz.prog 96 #[.slice a1 n c1, .slice a2 n c2] w fun e w' => e = .returned (.bool (decide (xs = ys))) ∧ Below w.heap.size w w' := by
  by_cases h0 : 0 < n
  · obtain ⟨b1, o1, k1, e1, hc1⟩ := h1.cells (by omega)
    obtain ⟨b2, o2, k2, e2, hc2⟩ := h2.cells (by omega)
    simp only [Value.slice.injEq] at e1 e2
    obtain ⟨rfl, _, rfl⟩ := e1
    obtain ⟨rfl, _, rfl⟩ := e2
    have key : ∀ (l : List Ent) (b o : Nat), (∀ j, j < l.length → w.cell? ⟨b, o + j * 4, none⟩ = some (.int .i64 (ePost (l.getD j (0, 0, 0, ⟨#[]⟩)))) ∧ w.cell? ⟨b, o + j * 4 + 1, none⟩ = some (.int .i64 (eNum (l.getD j (0, 0, 0, ⟨#[]⟩)))) ∧
      w.cell? ⟨b, o + j * 4 + 2, none⟩ = some (.int .i64 (eCnt (l.getD j (0, 0, 0, ⟨#[]⟩)))) ∧ w.cell? ⟨b, o + j * 4 + 3, none⟩ = some (.string (eLine (l.getD j (0, 0, 0, ⟨#[]⟩))))) →
      ∀ j, j < l.length → ∀ i v, (entC l[j]!)[i]? = some v → w.cell? ⟨b, o + j * 4 + i, none⟩ = some v := by
      intro l b o h j hj i v hv
      obtain ⟨q0, q1, q2, q3⟩ := h j hj
      have he : l.getD j (0, 0, 0, ⟨#[]⟩) = l[j]! := by
        rw [List.getD_eq_getElem?_getD, List.getElem?_eq_getElem hj, getElem!_pos l j hj]; rfl
      rw [he] at q0 q1 q2 q3
      have hi : i < 4 := (List.getElem?_eq_some_iff.1 hv).1
      rcases (show i = 0 ∨ i = 1 ∨ i = 2 ∨ i = 3 by omega) with rfl | rfl | rfl | rfl <;> simp only [entC, List.getElem?_cons_zero, List.getElem?_cons_succ, Option.some.injEq] at hv <;> subst hv <;> assumption
    refine (AnyQ.slices_Equal Tryz.equalE 4 Tryz.isAgg43 Tryz.sizeOf43 entC (fun _ => rfl) eqE neqE b1 o1 n c1 b2 o2 n c2 xs ys w (by omega) (by omega) (by omega) (by omega) (key xs b1 o1 hc1) (key ys b2 o2 hc2)).mono ?_
    rintro e w' ⟨rfl, q, rfl⟩
    refine ⟨?_, belowD (Below.refl _ _) _⟩
    rw [List.take_of_length_le (by omega), List.take_of_length_le (by omega)]
    congr 2
    rw [Bool.eq_iff_iff, allEq_iff xs ys (by omega), decide_eq_true_eq]
  · have hz : n = 0 := by omega
    have e1 : xs = [] := List.length_eq_zero_iff.1 (by omega)
    have e2 : ys = [] := List.length_eq_zero_iff.1 (by omega)
    subst e1 e2 hz
    clear h1 h2 hn hn2
    go_enter Tryz.func96, Tryz.ntmps96
    go_wp2
    go_loopw [13] (fun i wr => i = .int .i64 0 ∧ w = wr) (fun _ _ => 0)
    case atStart => exact ⟨rfl, rfl⟩
    case round =>
      obtain ⟨rfl, rfl⟩ := hrel
      go_wp2
      go_ret
      exact ⟨rfl, Below.refl _ _⟩
/-- slices.Clone of a list of a book. -/
def ClonePost (l : List Ent) (w : World) (e : Ending) (w' : World) : Prop := ∃ v, e = .returned v ∧ w'.ownsRow w.heap.size 43 4 v l.length (rowE l) ∧ Below w.heap.size w w'
theorem clone_any (v : Value) (l : List Ent) (w : World) (h : ListAt w v l) (hl : l.length ≤ 1000) : Calls Tryz.prog 97 #[v] w (ClonePost l w) := by
  obtain ⟨i0, hi0, hz0, hz1, hz2⟩ := info_parts Tryz.infoEnt
  rcases h.forms with ⟨rfl, rfl⟩ | ⟨g, cap, rfl, hc⟩
  · refine (AnyE.slices_Clone_nil Tryz.cloneE 0 0 w).mono ?_
    rintro e w' ⟨rfl, rfl⟩
    exact ⟨_, rfl, World.ownsRow_nil _ _ _ _, Below.refl _ _⟩
  · refine (AnyE.slices_Clone Tryz.cloneE i0 _ 4 40 hi0 hz0 hz1 hz2 rfl (by decide) Tryz.sizeOf43 g 0 l.length cap (rowE l) w h.1 (by unfold maxLen; omega) (by omega) (fun j u hj => ?_) (rowE_one l)).mono ?_
    · have hjl := (List.getElem?_eq_some_iff.1 hj).1
      rw [rowE_len] at hjl
      rw [h.cellAt (0 + j) (by omega), Nat.zero_add, hj]
    · rintro e w' ⟨v', rfl, ho, _, hb⟩
      exact ⟨v', rfl, ho, hb⟩
end Go.Proofs.YtdfkaijeppdhaaaGreatDoor

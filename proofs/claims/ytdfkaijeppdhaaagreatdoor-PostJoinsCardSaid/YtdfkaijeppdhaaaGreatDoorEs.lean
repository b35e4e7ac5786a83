/- Contract: slices.SortFunc at entries by order. -/
import Derived.Test.YtdfkaijeppdhaaaGreatDoorEb
import Derived.Test.YtdfkaijeppdhaaaGreatDoorEf
namespace Go.Proofs.YtdfkaijeppdhaaaGreatDoor
open Go.RowKit Go.Sort Go.Proofs Go.Lib Go.Shelf

section
variable {α : Type} [Inhabited α]
theorem holds_of_blockE {enc : α → Value} {w : World} {g : Nat} {cur : Array Value} {e : TypeId} {d : Array α} (hb : w.heap[g]? = some (.cells cur e (0, 0))) (ht : cur.toList.take d.size = d.toList.map enc) : Holds enc w g 0 d := by
  intro j hj
  refine ⟨?_, by simp [World.frozen?, hb]⟩
  have h1 : (cur.toList.take d.size)[j]? = (d.toList.map enc)[j]? := by rw [ht]
  rw [List.getElem?_take_of_lt hj] at h1
  simp only [World.cell?, hb, Nat.zero_add]
  simp only [Option.isSome_none, Bool.false_eq_true, if_false]
  rw [← Array.getElem?_toList, h1]
  simp [hj]
theorem heap_sortedE {enc : α → Value} {w : World} {g n : Nat} {os : Array Obj} {cur : Array Value} {e : TypeId} {fr : Nat × Nat} (d : Array α) (hb : w.heap[g]? = some (.cells cur e fr)) :
    (sortWorld enc w g 0 n d os).heap[g]? = some (.cells (putCells enc 0 d cur) e fr) := by
  unfold sortWorld
  have hg : g < w.heap.size := (Array.getElem?_eq_some_iff.1 hb).1
  rw [heap_grow_old _ _ (by simpa using hg)]
  simp [putRow, mapBlock, Sort.ahead, Array.getElem?_modify, hb, onCells]
theorem grownBy_sortedE {enc : α → Value} {w : World} {g n : Nat} {os : Array Obj} (d : Array α) : w.grownBy (sortWorld enc w g 0 n d os) (some g) := by
  unfold sortWorld
  refine ⟨rfl, rfl, rfl, by simp, fun k hk hne => ?_⟩
  rw [heap_grow_old _ _ (by simpa using hk)]
  have : g ≠ k := fun e => hne (by rw [e])
  simp [putRow, mapBlock, Sort.ahead, Array.getElem?_modify, this]
theorem take_putCellsE {enc : α → Value} (cur : Array Value) (d : Array α) (h : d.size ≤ cur.size) : (putCells enc 0 d cur).toList.take d.size = d.toList.map enc := by
  apply List.ext_getElem?
  intro j
  by_cases hj : j < d.size
  · rw [List.getElem?_take_of_lt hj, Array.getElem?_toList]
    simp [putCells, hj, show j < cur.size by omega]
  · rw [List.getElem?_take_eq_none (by omega), List.getElem?_eq_none (by simp; omega)]
end
theorem flat_row (d : Array Ent) : (flatK entC 4 d).toList = rowE d.toList := by
  apply List.ext_getElem?
  intro t
  by_cases ht : t < d.size * 4
  · have hj : t / 4 < d.toList.length := by simp; omega
    have h1 := rowE_at d.toList (t / 4) (t % 4) hj (by omega)
    rw [show t / 4 * 4 + t % 4 = t by omega] at h1
    rw [h1, Array.getElem?_toList]
    have hs : t < (flatK entC 4 d).size := by simp; exact ht
    rw [Array.getElem?_eq_getElem hs, ← getElem!_pos (flatK entC 4 d) t hs, get_flatK _ _ _ _ ht]
    have hd : d[t / 4]! = d.toList[t / 4] := by rw [getElem!_pos d (t / 4) (by simpa using hj)]; simp
    rw [hd]
    have hc : t % 4 < (entC d.toList[t / 4]).length := by unfold entC; simp; omega
    rw [List.getElem?_eq_getElem hc, getElem!_pos (entC (d.toList[t / 4])) (t % 4) hc]
  · rw [List.getElem?_eq_none (by simp; omega), List.getElem?_eq_none (by rw [rowE_len]; simp; omega)]
theorem eCmp_neg (a b : Ent) : eCmp a b < 0 ↔ eLt a b := by
  unfold eCmp
  split
  · simp [*]
  · split <;> simp [*]
theorem eCmp_swo : SWO (ltOf eCmp) where
  irrefl x := by
    unfold ltOf
    exact decide_eq_false fun h => eLt_irrefl x ((eCmp_neg x x).1 h)
  trans x y z h1 h2 := by
    unfold ltOf at *
    rw [decide_eq_true_eq, eCmp_neg] at *
    exact eLt_trans h1 h2
  ntrans x y z h1 h2 := by
    unfold ltOf at *
    rw [decide_eq_false_iff_not, eCmp_neg] at *
    unfold eLt at *
    omega
def SortPost (base : Nat) (v : Value) (l : List Ent) (w : World) (e : Ending) (w' : World) : Prop :=
  e = .returned (.tuple #[]) ∧ ∃ l' : List Ent, l'.Perm l ∧ l'.Pairwise (fun a b => ¬ eLt b a) ∧ w'.ownsRow base 43 4 v l.length (rowE l') ∧ Below base w w'
set_option maxHeartbeats 1000000 in
theorem sort_any (base : Nat) (v : Value) (l : List Ent) (w : World) (hpos : 0 < l.length) (hn : l.length ≤ 1000000) (hb : base ≤ w.heap.size) (h : w.ownsRow base 43 4 v l.length (rowE l)) :
    Calls Tryz.prog 94 #[v, .func (.func 95) #[] #[]] w (SortPost base v l w) := by
  rcases h.2 with ⟨_, h0⟩ | ⟨g, cap, cur, rfl, hB, hg, hcap, hmax, hcs, htk⟩
  · omega
  obtain ⟨d, rfl⟩ : ∃ d : Array Ent, l = d.toList := ⟨l.toArray, by simp⟩
  have hlt : g < w.heap.size := (Array.getElem?_eq_some_iff.1 hg).1
  have hfs : (flatK entC 4 d).size = d.size * 4 := size_flatK _ _ _
  have hH : HoldsK entC 4 w g 0 d := by
    refine holds_of_blockE hg ?_
    rw [hfs, flat_row, List.map_id]
    simpa using htk
  have hcmp : CmpLays Tryz.prog 95 #[] entC 4 eCmp g 0 d.size w := fun m os dk hs x y => order_any x y _
  have T := AnyQ.slices_SortFunc Tryz.sortE 4 Tryz.isAgg43 Tryz.sizeOf43 entC (fun _ => rfl) (fun x u hu => by simp [entC] at hu; rcases hu with rfl | rfl | rfl | rfl <;> rfl) eCmp eCmp_swo 95 #[] g 0 cap d w
    (enters_of Tryz.func95 (by kernel_rfl) rfl) hcmp hH hlt (by simp at hn; omega)
  rw [show d.size = d.toList.length by simp] at T
  refine T.mono ?_
  rintro e w' ⟨rfl, d', n, os, hp, hs, rfl⟩
  obtain ⟨hp1, _, hp3⟩ := hp
  rw [show d.toList.length = d.size by simp] at hp3 hs
  have hpp : d'.toList.Perm d.toList := by
    have e1 : d'.extract 0 d.size = d' := by rw [← hp1]; simp
    have e2 : d.extract 0 d.size = d := by simp
    rwa [e1, e2] at hp3
  have e0 : sortWorldK entC 4 w g 0 n d' os = sortWorld id w g 0 n (flatK entC 4 d') os := rfl
  rw [e0]
  have hgb := grownBy_sortedE (enc := id) (w := w) (g := g) (n := n) (os := os) (flatK entC 4 d')
  have hfs' : (flatK entC 4 d').size = d.size * 4 := by rw [size_flatK, hp1]
  refine ⟨rfl, d'.toList, hpp, ?_, ?_, ?_⟩
  · rw [List.pairwise_iff_getElem]
    intro i j hi hj hij
    have := of_decide_eq_false (hs i j (Nat.zero_le _) hij (by rw [← hp1]; simpa using hj))
    rw [getElem!_pos d' i (by simpa using hi), getElem!_pos d' j (by simpa using hj), eCmp_neg] at this
    simpa using this
  · have hcl : d.size * 4 ≤ cur.size := by rw [hcs]; simp at hcap; omega
    refine ⟨by rw [rowE_len]; simp [hp1], .inr ⟨g, cap, _, rfl, hB, heap_sortedE _ hg, hcap, hmax, by simp [putCells, hcs], ?_⟩⟩
    have := take_putCellsE (enc := id) cur (flatK entC 4 d') (by rw [hfs']; exact hcl)
    rw [hfs', List.map_id, flat_row] at this
    simpa using this
  · exact (Below.refl base w).grown hgb hb (fun k e => by injection e with e; omega)
end Go.Proofs.YtdfkaijeppdhaaaGreatDoor

/- Contracts: split; what parse hands back. -/
import Derived.Test.YtdfkaijeppdhaaaGreatDoorEf
import Derived.WalkSpells
namespace Go.Proofs.YtdfkaijeppdhaaaGreatDoor
open Go.RowKit Go.Shelf

theorem ne_word {w : ByteArray} {l : List UInt8} (h : w ≠ ⟨l.toArray⟩) : (w.toList == l) = false := by
  rw [beq_eq_false_iff_ne, ba_list]
  intro e
  exact h (ba_ext e)
theorem below_drewN {n : Nat} {w w' : World} (h : Below n w w') (k : Nat) : Below n w (w'.drewN k) := ⟨h.os, h.tape.trans rfl, h.output, h.size, h.block⟩
theorem splitA_size {c : UInt8} {s x : ByteArray} (h : x ∈ splitA c s) : x.size ≤ s.size := by
  have key : ∀ (l : List UInt8) (k : Nat) (x : List UInt8), x ∈ splitN c k l → x.length ≤ l.length := by
    intro l
    induction l with
    | nil => intro k x h; cases k <;> simp [splitN] at h <;> simp [h]
    | cons b r ih =>
      intro k x h
      cases k with
      | zero => simp [splitN] at h; simp [h]
      | succ k =>
        unfold splitN at h
        split at h
        · rcases List.mem_cons.1 h with rfl | h
          · simp
          · have := ih k x h; simp; omega
        · split at h
          · simp at h; subst h; simp
          · rename_i y ys he
            rcases List.mem_cons.1 h with rfl | h
            · have := ih (k + 1) y (by rw [he]; simp); simp; omega
            · have := ih (k + 1) x (by rw [he]; simp [h]); simp; omega
  unfold splitA splitS at h
  obtain ⟨l, hl, rfl⟩ := List.mem_map.1 h
  have := key _ _ _ hl
  rw [ba_size, ba_size, bsB_list]
  exact this

/-- What split hands back. -/
def GivesW (w : World) (l : List ByteArray) (e : Ending) (w' : World) : Prop :=
  (∃ a c, e = .returned (.tuple #[.string (l.headD emp), .slice a (l.length - 1) c]) ∧ (1 < l.length → a = some ⟨w.heap.size, 1, none⟩ ∧ c = l.length - 1 ∧ ∀ j, j + 1 < l.length → w'.cell? ⟨w.heap.size, 1 + j, none⟩ = some (.string (l.getD (j + 1) emp)))) ∧ Below w.heap.size w w'
theorem row_cell {w : World} {l : List ByteArray} {t : TypeId} {j : Nat} (h : j < l.length) : (w.alloc (.cells (l.map Value.string).toArray t)).cell? ⟨w.heap.size, j, none⟩ = some (.string (l.getD j emp)) := by
  have h2 := World.alloc_heap_new w (.cells (l.map Value.string).toArray t)
  refine heap_cell h2 ?_
  rw [List.getElem?_toArray, List.getElem?_map, List.getElem?_eq_getElem h, List.getD_eq_getElem?_getD, List.getElem?_eq_getElem h]
  rfl
set_option maxHeartbeats 1000000 in
theorem split_any (s : ByteArray) (hs : s.size ≤ 4000000000) (w : World) (hV : Vars w) :
    Calls Tryz.prog 84 #[.string s] w (GivesW w (splitA 32 s)) := by
  obtain ⟨m, hm⟩ := hV.ml
  have S := Tryz.strings_Split s ⟨#[32]⟩ m w (by omega) hm (by decide)
  have hlen := splitA_len 32 s
  rw [← countB_one] at hlen
  rw [splitB_all] at S
  have hcnt : (splitA 32 s).length ≤ s.size + 1 := by
    rw [splitA_len]
    have := List.count_le_length (a := (32 : UInt8)) (l := s.data.toList)
    rw [← ba_size] at this
    omega
  have hne := splitA_ne 32 s
  generalize splitA 32 s = l at *
  generalize Lib.countB s ⟨#[32]⟩ = q at *
  have HL := Lib.hid hlen
  have hq : q ≤ 4000000000 := by omega
  have HR := Lib.hid (fun j (hj : j < l.length) => row_cell (w := w) (l := l) (t := 9) hj)
  obtain ⟨w1, hw1⟩ : ∃ w1, w1 = w.alloc (.cells (l.map Value.string).toArray 9) := ⟨_, rfl⟩
  have HR1 : Hid (∀ j, j < l.length → w1.cell? ⟨w.heap.size, j, none⟩ = some (.string (l.getD j emp))) := Lib.hid (by rw [hw1]; exact HR.out)
  have HB1 : Hid (Below w.heap.size w w1) := Lib.hid (by rw [hw1]; exact (Below.refl _ w).alloc (Nat.le_refl _) _)
  have HS := Lib.hid S
  have h0 := HR1.out 0 (by omega)
  have hg0 : l.getD 0 emp = l.headD emp := by cases l <;> rfl
  rw [hg0] at h0
  have HW := Lib.hid hw1
  clear S hlen hne hcnt hm hV hw1 HR hg0
  obtain ⟨hd, hhd⟩ : ∃ x, x = l.headD emp := ⟨_, rfl⟩
  have HH := Lib.hid hhd
  rw [← hhd] at h0
  clear hhd
  rcases Nat.eq_zero_or_pos q with h1 | h1
  · subst h1
    go_enter Tryz.func84, Tryz.ntmps84
    go_wp2_with fail
    refine HS.out.mono ?_
    rintro e w' ⟨rfl, hw'⟩
    obtain rfl : w' = w1 := hw'.trans HW.out.symm
    clear hw'
    go_wp2
    go_quiet (fail)
    all_goals go_wp2
    go_ret2
    refine ⟨⟨_, _, by rw [← HH.out, HL.out]; rfl, fun h => ?_⟩, below_drewN HB1.out _⟩
    have := HL.out; omega
  · go_enter Tryz.func84, Tryz.ntmps84
    go_wp2_with fail
    refine HS.out.mono ?_
    rintro e w' ⟨rfl, hw'⟩
    obtain rfl : w' = w1 := hw'.trans HW.out.symm
    clear hw'
    go_wp2
    go_quiet (fail)
    all_goals go_wp2
    go_ret2
    have hl2 := HL.out
    refine ⟨⟨_, _, by rw [← HH.out, hl2]; rfl, fun h => ⟨by simp, by omega, fun j hj => ?_⟩⟩, below_drewN HB1.out _⟩
    have := HR1.out (j + 1) hj
    rw [Nat.add_comm 1 j]
    exact this
end Go.Proofs.YtdfkaijeppdhaaaGreatDoor

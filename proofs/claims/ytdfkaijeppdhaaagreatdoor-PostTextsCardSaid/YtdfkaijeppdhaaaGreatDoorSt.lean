/- Contract of the reference: says (Post). -/
import Derived.Test.YtdfkaijeppdhaaaGreatDoorSd
import Derived.Test.YtdfkaijeppdhaaaGreatDoorDu
namespace Go.Proofs.YtdfkaijeppdhaaaGreatDoor
open Go.RowKit Go.Shelf

def SaysRPost (b : Book) (w : World) (e : Ending) (w' : World) : Prop := ∃ B, e = .returned (.pointer (some ⟨w.heap.size, 0, none⟩)) ∧ SaysAt w' w.heap.size B (saysR (allB b) []) ∧ Below w.heap.size w w'
theorem saysR_take {l : List Ent} {k : Nat} (h : k < l.length) : saysR (l.take (k + 1)) [] = (deedV (saysR (l.take k) []) (eLine (l.getD k noE))).2 := by
  rw [List.take_succ_eq_append_getElem h, saysR_snoc]
  rw [List.getD_eq_getElem?_getD, List.getElem?_eq_getElem h]; rfl
theorem saysR_sum (l : List Ent) (h : l.length ≤ 1000) (m : ByteArray) : -100000000 ≤ rsSum (saysR l []) m ∧ rsSum (saysR l []) m ≤ 100000000 := by
  have h1 : rsSum (saysR l []) m = (saysB l).stk m := by rw [← saysR_kn]; rfl
  rw [h1]
  exact stk_says l h m
theorem says_new (w : World) {w2 : World} (hb : Below (w.heap.size + 1) (w.alloc (.cells #[.slice none 0 0, .slice none 0 0, .slice none 0 0] 124)) w2) : SaysAt w2 w.heap.size w2.heap.size [] := by
  have hsz := hb.size
  rw [World.size_alloc] at hsz
  exact ⟨.slice none 0 0, .slice none 0 0, .slice none 0 0, (hb.block _ (by omega)).trans (World.alloc_heap_new w _), World.ownsRow_nil _ _ _ _, World.ownsRow_nil _ _ _ _, World.ownsRow_nil _ _ _ _, fun g hg => by simp [Value.ownBlock] at hg, by omega, Nat.le_refl _⟩
set_option maxRecDepth 100000 in
set_option maxHeartbeats 4000000 in
theorem rsays_any (P : Nat) (n : Int) (vs : Nat → Value) (b : Book) (w : World) (h : RfAt w P n vs b) (hok : BookOk b) :
    Calls Tryz.prog 59 #[.pointer (some ⟨P, 0, none⟩)] w (SaysRPost b w) := by
  obtain ⟨w1, hw1⟩ : ∃ w1, w1 = w.alloc (.cells #[.slice none 0 0, .slice none 0 0, .slice none 0 0] 124) := ⟨_, rfl⟩
  have HB1 : Hid (Below w.heap.size w w1) := Lib.hid (by rw [hw1]; exact (Below.refl _ w).alloc (Nat.le_refl _) _)
  have HSZ1 : Hid (w1.heap.size = w.heap.size + 1) := Lib.hid (by rw [hw1, World.size_alloc])
  have HBK := Lib.hid (rbook_any P n vs b w1 (h.below HB1.out) hok)
  have HBD := Lib.hid (fun e (he : e ∈ allB b) => book_bounds hok he)
  have hlen : (allB b).length ≤ 240 := by rw [allB_len]; exact lenB_le hok
  have HW1 := Lib.hid hw1
  unfold SaysRPost
  generalize allB b = l at *
  clear h hok hw1
  go_enter Tryz.func59, Tryz.ntmps59
  go_wp2_with fail
  rw [← HW1.out]
  refine HBK.out.mono ?_
  rintro e w2 ⟨v, rfl, hl, hhi, hb2⟩
  have HN0 : Hid (SaysAt w2 w.heap.size w2.heap.size []) := Lib.hid (says_new w (by rw [HW1.out, World.size_alloc] at hb2; exact hb2))
  have HE2 := Lib.hid (hl.ents (by omega))
  have HHI := Lib.hid (fun k (hk : v.ownBlock = some k) => And.intro (hhi k hk) (hl.lt hk))
  have HB2 := Lib.hid (HB1.out.trans (hb2.mono HB1.out.size))
  obtain ⟨a, c, rfl⟩ := own_shape hl
  obtain ⟨n9, hn⟩ : ∃ n, n = l.length := ⟨_, rfl⟩
  have HN := Lib.hid hn
  rw [← hn] at hlen ⊢
  clear hn hl hb2 hhi
  go_wp2_with fail
  go_loopw [5] (fun i wr => ∃ k : Nat, k ≤ n9 ∧ i = .int .i64 k ∧ Hid (SaysAt wr w.heap.size w2.heap.size (saysR (l.take k) [])) ∧ Hid (TS w.heap.size w2.heap.size w2 wr)) (fun i _ => n9 - (intOf i).toNat)
  case atStart => exact ⟨0, by omega, rfl, HN0, Lib.hid (TS.refl _ _ _)⟩
  case round =>
    obtain ⟨k, hk, rfl, HS, HT⟩ := hrel
    by_cases hlt : k < n9
    · have hlt2 : (k : Int) < (n9 : Int) := by omega
      have hkl : k < l.length := by rw [← HN.out]; exact hlt
      have HEW : Hid (EntsAt wr (.slice a l.length c) l) := Lib.hid (HE2.out.keep fun _ g hg => HT.out.block g (HHI.out g hg).2 (HHI.out g hg).2 (by have h1 := (HHI.out g hg).1; have h2 := HSZ1.out; omega))
      obtain ⟨g, o, cc, hv, _, _, _, p4⟩ := HEW.out.entry hkl
      simp only [Value.slice.injEq] at hv
      obtain ⟨rfl, _, rfl⟩ := hv
      have hmem : l.getD k noE ∈ l := by rw [List.getD_eq_getElem?_getD, List.getElem?_eq_getElem hkl]; exact List.getElem_mem hkl
      have hline := line_small (HBD.out _ hmem).2.2.2
      rw [← ba_size] at hline
      have HTK := Lib.hid (saysR_take hkl)
      have HDD := Lib.hid (rdeed_any w.heap.size w2.heap.size (saysR (l.take k) []) (eLine (l.getD k noE)) (by omega) wr HS.out (by
        have h9 := saysR_len (l.take k) []
        rw [List.length_take] at h9
        simp only [List.length_nil] at h9
        omega) (saysR_sum _ (by rw [List.length_take]; omega)))
      generalize eLine (l.getD k noE) = s at *
      clear hmem hline
      go_wp2_with fail
      refine HDD.out.mono ?_
      rintro e w3 ⟨rfl, hs3, ht3⟩
      have HS3 : Hid (SaysAt w3 w.heap.size w2.heap.size (saysR (l.take (k + 1)) [])) := Lib.hid (by rw [HTK.out]; exact hs3)
      have HT3 := Lib.hid (HT.out.trans ht3)
      clear hs3 ht3
      go_wp2
      go_roundw
      case rel => exact ⟨k + 1, by omega, by go_num, HS3, HT3⟩
      case measure => simp [intOf]; omega
    · obtain rfl : k = n9 := by omega
      have HTA : Hid (l.take k = l) := Lib.hid (List.take_of_length_le (by rw [← HN.out]; exact Nat.le_refl _))
      go_wp2
      go_ret
      have h9 := HS.out
      rw [HTA.out] at h9
      exact ⟨_, rfl, h9, HB2.out.trans (HT.out.below (by obtain ⟨_, _, _, h8⟩ := h9; exact h8.low) HB2.out.size)⟩
end Go.Proofs.YtdfkaijeppdhaaaGreatDoor

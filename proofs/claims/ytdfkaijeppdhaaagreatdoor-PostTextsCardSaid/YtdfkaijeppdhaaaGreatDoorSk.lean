/- Contract of the reference: Join (Post). -/
import Derived.Test.YtdfkaijeppdhaaaGreatDoorSj
namespace Go.Proofs.YtdfkaijeppdhaaaGreatDoor
open Go.RowKit Go.Shelf

set_option maxRecDepth 100000 in
set_option maxHeartbeats 8000000 in
theorem rjoin_any (P n : Nat) (vs : Nat → Value) (b : Book) (vs2 : Nat → Value) (b2 : Book) (w : World) (h : RfAt w P n vs b) (h2 : ∀ i, i < 4 → EntsAt w (vs2 i) (b2 i)) (hok : BookOk b) (hok2 : BookOk b2)
    (hne : ∀ i, i < 4 → 0 < (b i).length → (vs i).ownBlock ≠ some P) (hne2 : ∀ i, i < 4 → 0 < (b2 i).length → (vs2 i).ownBlock ≠ some P) :
    Calls Tryz.prog 27 #[.pointer (some ⟨P, 0, none⟩), .agg #[vs2 0, vs2 1, vs2 2, vs2 3]] w (RJoinPost P n vs b b2 w) := by
  obtain ⟨wB, hwB⟩ : ∃ wB, wB = w.alloc (.cells #[vs2 0, vs2 1, vs2 2, vs2 3] 52) := ⟨_, rfl⟩
  have HBL : Hid (Below w.heap.size w wB) := Lib.hid (by rw [hwB]; exact (Below.refl _ w).alloc (Nat.le_refl _) _)
  have HBX : Hid (wB.heap[w.heap.size]? = some (.cells #[vs2 0, vs2 1, vs2 2, vs2 3] 52 (0, 0))) := Lib.hid (by rw [hwB]; exact World.alloc_heap_new w _)
  have HRF := Lib.hid (h.below HBL.out)
  have H2 := Lib.hid (fun i hi => (h2 i hi).below HBL.out)
  have HOK := Lib.hid hok
  have HOK2 := Lib.hid hok2
  have HNE := Lib.hid hne
  have HNE2 := Lib.hid hne2
  have HPW := Lib.hid h.lt
  have HW := Lib.hid hwB
  clear h h2 hok hok2 hne hne2 hwB
  go_enter Tryz.func27, Tryz.ntmps27
  go_wp2_with fail
  rw [← HW.out]
  go_loopw [5] (fun i wr => ∃ k : Nat, k ≤ 4 ∧ i = .int .i64 k ∧ Hid (∀ j, j < k → fitL (b j) (b2 j) = true) ∧ Hid (Below wB.heap.size wB wr)) (fun i _ => 4 - (intOf i).toNat)
  case atStart => exact ⟨0, by omega, rfl, Lib.hid (fun j hj => by omega), Lib.hid (Below.refl _ _)⟩
  case round =>
    obtain ⟨k, hk, rfl, HF, HBW⟩ := hrel
    by_cases hlt : k < 4
    · have hlt2 : (k : Int) < 4 := by omega
      have hge : (0 : Int) ≤ (k : Int) := by omega
      have HRK := Lib.hid (HRF.out.below HBW.out)
      have HXK := Lib.hid ((HBW.out.block _ (Array.getElem?_eq_some_iff.1 HBX.out).1).trans HBX.out)
      have c1 : ∀ W, KB wr W → W.cell? ⟨P, 1 + k, none⟩ = some (vs k) := fun W hW => keep_cell hW (HRK.out.cell hlt)
      have c2 : ∀ W, KB wr W → W.cell? ⟨w.heap.size, k, none⟩ = some (vs2 k) := fun W hW => keep_cell hW (by
        rcases (show k = 0 ∨ k = 1 ∨ k = 2 ∨ k = 3 by omega) with rfl | rfl | rfl | rfl <;> exact heap_cell HXK.out rfl)
      have HG1 := Lib.hid (fun W (hW : KB wr W) => rbegins_any (vs k) (vs2 k) (b k) (b2 k) W ((HRK.out.2 k hlt).below hW) (((H2.out k hlt).below HBW.out).below hW) (by have := (HOK.out k hlt).len; omega))
      have HG2 := Lib.hid (fun W (hW : KB wr W) => rbegins_any (vs2 k) (vs k) (b2 k) (b k) W (((H2.out k hlt).below HBW.out).below hW) ((HRK.out.2 k hlt).below hW) (by have := (HOK2.out k hlt).len; omega))
      have HFT : Hid (fitL (b k) (b2 k) = (decide (b k <+: b2 k) || decide (b2 k <+: b k))) := Lib.hid rfl
      generalize decide (b k <+: b2 k) = q1 at *
      generalize decide (b2 k <+: b k) = q2 at *
      have HNX := Lib.hid (fun (hq : (q1 || q2) = true) => show ∀ j, j < k + 1 → fitL (b j) (b2 j) = true from fun j hj => by
        by_cases e : j = k
        · subst e; rw [HFT.out, hq]
        · exact HF.out j (by omega))
      have HNO := Lib.hid (fun (hq : (q1 || q2) = false) => joinV_no (b := b) (b2 := b2) hlt (by rw [HFT.out, hq]))
      generalize vs k = v1 at *
      generalize vs2 k = v2 at *
      cases q1 with
      | true =>
        go_wp2
        refine wp_region_held_drew (S := KB wr) (by kernel_rfl) (KB.drew (KB.refl _)) (fun hHeld => ?_)
        refine takeY (i := 0) rfl (by kernel_rfl) (by kernel_rfl) (by kernel_rfl) (fun _ _ _ _ h => h) (by rfl) hHeld ?_
        apply Exists.intro
        apply And.intro
        · intro W3 hS3
          go_simp
          try rfl
        try simp only [Act.put, List.getElem_toArray, List.getElem_cons_zero, List.getElem_cons_succ, List.setIfInBounds_toArray, List.set_cons_zero, List.set_cons_succ]
        refine takeY (i := 1) rfl (by kernel_rfl) (by kernel_rfl) (by kernel_rfl) (fun _ _ _ _ h => h) (by rfl) hHeld ?_
        apply Exists.intro
        apply And.intro
        · intro W3 hS3
          go_simp
          try rfl
        try simp only [Act.put, List.getElem_toArray, List.getElem_cons_zero, List.getElem_cons_succ, List.setIfInBounds_toArray, List.set_cons_zero, List.set_cons_succ]
        refine takeY (i := 2) rfl (by kernel_rfl) (by kernel_rfl) (by kernel_rfl) (fun _ _ _ _ h => h) (by rfl) hHeld ?_
        apply Exists.intro
        apply And.intro
        · intro W3 hS3
          go_simp
          try rfl
        try simp only [Act.put, List.getElem_toArray, List.getElem_cons_zero, List.getElem_cons_succ, List.setIfInBounds_toArray, List.set_cons_zero, List.set_cons_succ]
        refine takeY (i := 3) rfl (by kernel_rfl) (by kernel_rfl) (by kernel_rfl) (fun _ _ _ _ h => h) (by rfl) hHeld ?_
        apply Exists.intro
        apply And.intro
        · intro W3 hS3
          go_simp
          try rfl
        try simp only [Act.put, List.getElem_toArray, List.getElem_cons_zero, List.getElem_cons_succ, List.setIfInBounds_toArray, List.set_cons_zero, List.set_cons_succ]
        refine takeY (i := 4) rfl (by kernel_rfl) (by kernel_rfl) (by kernel_rfl) (fun _ _ _ _ h => h) (by rfl) hHeld ?_
        apply Exists.intro
        apply And.intro
        · intro W3 hS3
          go_simp
          try rfl
        try simp only [Act.put, List.getElem_toArray, List.getElem_cons_zero, List.getElem_cons_succ, List.setIfInBounds_toArray, List.set_cons_zero, List.set_cons_succ]
        refine takeY (i := 5) rfl (by kernel_rfl) (by kernel_rfl) (by kernel_rfl) (fun _ _ _ _ h => h) (by rfl) hHeld ?_
        apply Exists.intro
        apply And.intro
        · intro W3 hS3
          go_simp
          try rfl
        try simp only [Act.put, List.getElem_toArray, List.getElem_cons_zero, List.getElem_cons_succ, List.setIfInBounds_toArray, List.set_cons_zero, List.set_cons_succ]
        refine takeY (i := 6) rfl (by kernel_rfl) (by kernel_rfl) (by kernel_rfl) (fun _ _ _ _ h => h) (by rfl) hHeld ?_
        apply Exists.intro
        apply And.intro
        · intro W3 hS3
          go_simp
          try rfl
        try simp only [Act.put, List.getElem_toArray, List.getElem_cons_zero, List.getElem_cons_succ, List.setIfInBounds_toArray, List.set_cons_zero, List.set_cons_succ]
        refine takeY (i := 7) rfl (by kernel_rfl) (by kernel_rfl) (by kernel_rfl) (fun _ _ _ _ h => h) (by rfl) hHeld ?_
        apply Exists.intro
        apply And.intro
        · intro W3 hS3
          go_simp
          try rfl
        try simp only [Act.put, List.getElem_toArray, List.getElem_cons_zero, List.getElem_cons_succ, List.setIfInBounds_toArray, List.set_cons_zero, List.set_cons_succ]
        refine takeY (i := 8) rfl (by kernel_rfl) (by kernel_rfl) (by kernel_rfl) (fun _ _ _ _ h => h) (by rfl) hHeld ?_
        apply Exists.intro
        apply And.intro
        · intro W3 hS3
          go_simp
          try rfl
        try simp only [Act.put, List.getElem_toArray, List.getElem_cons_zero, List.getElem_cons_succ, List.setIfInBounds_toArray, List.set_cons_zero, List.set_cons_succ]
        refine wpAnyH_ready (rs := [9]) (by kernel_rfl) (by simp) ?_
        refine (AllReadyH.cons rfl (fun K hK => ?_) AllReadyH.nil)
        go_simp
        refine (HG1.out _ hHeld).mono ?_
        rintro e w2 ⟨rfl, hb2⟩
        have hk2 := KB.call (w := wr) hHeld hb2
        clear hb2
        dsimp only
        refine hK.out _ _ hk2 (fun hHeld => ?_)
        clear hK K hk2
        try simp only [Act.put, List.getElem_toArray, List.getElem_cons_zero, List.getElem_cons_succ, List.setIfInBounds_toArray, List.set_cons_zero, List.set_cons_succ]
        refine takeY (i := 10) rfl (by kernel_rfl) (by kernel_rfl) (by kernel_rfl) (fun _ _ _ _ h => h) (by rfl) hHeld ?_
        apply Exists.intro
        apply And.intro
        · intro W3 hS3
          go_simp
          try rfl
        try simp only [Act.put, List.getElem_toArray, List.getElem_cons_zero, List.getElem_cons_succ, List.setIfInBounds_toArray, List.set_cons_zero, List.set_cons_succ]
        refine takeY (i := 11) rfl (by kernel_rfl) (by kernel_rfl) (by kernel_rfl) (fun _ _ _ _ h => h) (by rfl) hHeld ?_
        apply Exists.intro
        apply And.intro
        · intro W3 hS3
          go_simp
          try rfl
        try simp only [Act.put, List.getElem_toArray, List.getElem_cons_zero, List.getElem_cons_succ, List.setIfInBounds_toArray, List.set_cons_zero, List.set_cons_succ]
        refine wpAnyH_take (i := 12) (v := undef) rfl (by kernel_rfl) (by kernel_rfl) (by kernel_rfl) (fun _ _ _ h => h) (Or.inr ⟨by rfl, rfl⟩) hHeld ?_
        try simp only [Act.put, List.getElem_toArray, List.getElem_cons_zero, List.getElem_cons_succ, List.setIfInBounds_toArray, List.set_cons_zero, List.set_cons_succ]
        refine wpAnyH_take (i := 13) (v := undef) rfl (by kernel_rfl) (by kernel_rfl) (by kernel_rfl) (fun _ _ _ h => h) (Or.inr ⟨by rfl, rfl⟩) hHeld ?_
        try simp only [Act.put, List.getElem_toArray, List.getElem_cons_zero, List.getElem_cons_succ, List.setIfInBounds_toArray, List.set_cons_zero, List.set_cons_succ]
        refine wpAnyH_take (i := 14) (v := undef) rfl (by kernel_rfl) (by kernel_rfl) (by kernel_rfl) (fun _ _ _ h => h) (Or.inr ⟨by rfl, rfl⟩) hHeld ?_
        try simp only [Act.put, List.getElem_toArray, List.getElem_cons_zero, List.getElem_cons_succ, List.setIfInBounds_toArray, List.set_cons_zero, List.set_cons_succ]
        refine wpAnyH_take (i := 15) (v := undef) rfl (by kernel_rfl) (by kernel_rfl) (by kernel_rfl) (fun _ _ _ h => h) (Or.inr ⟨by rfl, rfl⟩) hHeld ?_
        try simp only [Act.put, List.getElem_toArray, List.getElem_cons_zero, List.getElem_cons_succ, List.setIfInBounds_toArray, List.set_cons_zero, List.set_cons_succ]
        refine wpAnyH_take (i := 16) (v := undef) rfl (by kernel_rfl) (by kernel_rfl) (by kernel_rfl) (fun _ _ _ h => h) (Or.inr ⟨by rfl, rfl⟩) hHeld ?_
        try simp only [Act.put, List.getElem_toArray, List.getElem_cons_zero, List.getElem_cons_succ, List.setIfInBounds_toArray, List.set_cons_zero, List.set_cons_succ]
        refine wpAnyH_take (i := 17) (v := undef) rfl (by kernel_rfl) (by kernel_rfl) (by kernel_rfl) (fun _ _ _ h => h) (Or.inr ⟨by rfl, rfl⟩) hHeld ?_
        try simp only [Act.put, List.getElem_toArray, List.getElem_cons_zero, List.getElem_cons_succ, List.setIfInBounds_toArray, List.set_cons_zero, List.set_cons_succ]
        refine wpAnyH_take (i := 18) (v := undef) rfl (by kernel_rfl) (by kernel_rfl) (by kernel_rfl) (fun _ _ _ h => h) (Or.inr ⟨by rfl, rfl⟩) hHeld ?_
        try simp only [Act.put, List.getElem_toArray, List.getElem_cons_zero, List.getElem_cons_succ, List.setIfInBounds_toArray, List.set_cons_zero, List.set_cons_succ]
        refine wpAnyH_take (i := 19) (v := undef) rfl (by kernel_rfl) (by kernel_rfl) (by kernel_rfl) (fun _ _ _ h => h) (Or.inr ⟨by rfl, rfl⟩) hHeld ?_
        try simp only [Act.put, List.getElem_toArray, List.getElem_cons_zero, List.getElem_cons_succ, List.setIfInBounds_toArray, List.set_cons_zero, List.set_cons_succ]
        refine wpAnyH_take (i := 20) (v := undef) rfl (by kernel_rfl) (by kernel_rfl) (by kernel_rfl) (fun _ _ _ h => h) (Or.inr ⟨by rfl, rfl⟩) hHeld ?_
        try simp only [Act.put, List.getElem_toArray, List.getElem_cons_zero, List.getElem_cons_succ, List.setIfInBounds_toArray, List.set_cons_zero, List.set_cons_succ]
        refine wpAnyH_take (i := 21) (v := undef) rfl (by kernel_rfl) (by kernel_rfl) (by kernel_rfl) (fun _ _ _ h => h) (Or.inr ⟨by rfl, rfl⟩) hHeld ?_
        try simp only [Act.put, List.getElem_toArray, List.getElem_cons_zero, List.getElem_cons_succ, List.setIfInBounds_toArray, List.set_cons_zero, List.set_cons_succ]
        refine wpAnyH_take (i := 22) (v := undef) rfl (by kernel_rfl) (by kernel_rfl) (by kernel_rfl) (fun _ _ _ h => h) (Or.inr ⟨by rfl, rfl⟩) hHeld ?_
        try simp only [Act.put, List.getElem_toArray, List.getElem_cons_zero, List.getElem_cons_succ, List.setIfInBounds_toArray, List.set_cons_zero, List.set_cons_succ]
        refine takeY (i := 23) rfl (by kernel_rfl) (by kernel_rfl) (by kernel_rfl) (fun _ _ _ _ h => h) (by rfl) hHeld ?_
        apply Exists.intro
        apply And.intro
        · intro W3 hS3
          go_simp
          try rfl
        try simp only [Act.put, List.getElem_toArray, List.getElem_cons_zero, List.getElem_cons_succ, List.setIfInBounds_toArray, List.set_cons_zero, List.set_cons_succ]
        refine wpAnyH_done (by kernel_rfl) ?_ _
        try simp only [Exit.then]
        have HB5 := Lib.hid (HBW.out.trans (hHeld.mono HBW.out.size))
        clear hHeld
        go_wp2
        go_roundw
        case rel => exact ⟨k + 1, by omega, by go_num, Lib.hid (HNX.out rfl), HB5⟩
        case measure => simp [intOf]; omega
      | false =>
        cases q2 with
        | true =>
          go_wp2
          refine wp_region_held_drew (S := KB wr) (by kernel_rfl) (KB.drew (KB.refl _)) (fun hHeld => ?_)
          refine takeY (i := 0) rfl (by kernel_rfl) (by kernel_rfl) (by kernel_rfl) (fun _ _ _ _ h => h) (by rfl) hHeld ?_
          apply Exists.intro
          apply And.intro
          · intro W3 hS3
            go_simp
            try rfl
          try simp only [Act.put, List.getElem_toArray, List.getElem_cons_zero, List.getElem_cons_succ, List.setIfInBounds_toArray, List.set_cons_zero, List.set_cons_succ]
          refine takeY (i := 1) rfl (by kernel_rfl) (by kernel_rfl) (by kernel_rfl) (fun _ _ _ _ h => h) (by rfl) hHeld ?_
          apply Exists.intro
          apply And.intro
          · intro W3 hS3
            go_simp
            try rfl
          try simp only [Act.put, List.getElem_toArray, List.getElem_cons_zero, List.getElem_cons_succ, List.setIfInBounds_toArray, List.set_cons_zero, List.set_cons_succ]
          refine takeY (i := 2) rfl (by kernel_rfl) (by kernel_rfl) (by kernel_rfl) (fun _ _ _ _ h => h) (by rfl) hHeld ?_
          apply Exists.intro
          apply And.intro
          · intro W3 hS3
            go_simp
            try rfl
          try simp only [Act.put, List.getElem_toArray, List.getElem_cons_zero, List.getElem_cons_succ, List.setIfInBounds_toArray, List.set_cons_zero, List.set_cons_succ]
          refine takeY (i := 3) rfl (by kernel_rfl) (by kernel_rfl) (by kernel_rfl) (fun _ _ _ _ h => h) (by rfl) hHeld ?_
          apply Exists.intro
          apply And.intro
          · intro W3 hS3
            go_simp
            try rfl
          try simp only [Act.put, List.getElem_toArray, List.getElem_cons_zero, List.getElem_cons_succ, List.setIfInBounds_toArray, List.set_cons_zero, List.set_cons_succ]
          refine takeY (i := 4) rfl (by kernel_rfl) (by kernel_rfl) (by kernel_rfl) (fun _ _ _ _ h => h) (by rfl) hHeld ?_
          apply Exists.intro
          apply And.intro
          · intro W3 hS3
            go_simp
            try rfl
          try simp only [Act.put, List.getElem_toArray, List.getElem_cons_zero, List.getElem_cons_succ, List.setIfInBounds_toArray, List.set_cons_zero, List.set_cons_succ]
          refine takeY (i := 5) rfl (by kernel_rfl) (by kernel_rfl) (by kernel_rfl) (fun _ _ _ _ h => h) (by rfl) hHeld ?_
          apply Exists.intro
          apply And.intro
          · intro W3 hS3
            go_simp
            try rfl
          try simp only [Act.put, List.getElem_toArray, List.getElem_cons_zero, List.getElem_cons_succ, List.setIfInBounds_toArray, List.set_cons_zero, List.set_cons_succ]
          refine takeY (i := 6) rfl (by kernel_rfl) (by kernel_rfl) (by kernel_rfl) (fun _ _ _ _ h => h) (by rfl) hHeld ?_
          apply Exists.intro
          apply And.intro
          · intro W3 hS3
            go_simp
            try rfl
          try simp only [Act.put, List.getElem_toArray, List.getElem_cons_zero, List.getElem_cons_succ, List.setIfInBounds_toArray, List.set_cons_zero, List.set_cons_succ]
          refine takeY (i := 7) rfl (by kernel_rfl) (by kernel_rfl) (by kernel_rfl) (fun _ _ _ _ h => h) (by rfl) hHeld ?_
          apply Exists.intro
          apply And.intro
          · intro W3 hS3
            go_simp
            try rfl
          try simp only [Act.put, List.getElem_toArray, List.getElem_cons_zero, List.getElem_cons_succ, List.setIfInBounds_toArray, List.set_cons_zero, List.set_cons_succ]
          refine takeY (i := 8) rfl (by kernel_rfl) (by kernel_rfl) (by kernel_rfl) (fun _ _ _ _ h => h) (by rfl) hHeld ?_
          apply Exists.intro
          apply And.intro
          · intro W3 hS3
            go_simp
            try rfl
          try simp only [Act.put, List.getElem_toArray, List.getElem_cons_zero, List.getElem_cons_succ, List.setIfInBounds_toArray, List.set_cons_zero, List.set_cons_succ]
          refine wpAnyH_ready (rs := [9]) (by kernel_rfl) (by simp) ?_
          refine (AllReadyH.cons rfl (fun K hK => ?_) AllReadyH.nil)
          go_simp
          refine (HG1.out _ hHeld).mono ?_
          rintro e w2 ⟨rfl, hb2⟩
          have hk2 := KB.call (w := wr) hHeld hb2
          clear hb2
          dsimp only
          refine hK.out _ _ hk2 (fun hHeld => ?_)
          clear hK K hk2
          try simp only [Act.put, List.getElem_toArray, List.getElem_cons_zero, List.getElem_cons_succ, List.setIfInBounds_toArray, List.set_cons_zero, List.set_cons_succ]
          refine takeY (i := 10) rfl (by kernel_rfl) (by kernel_rfl) (by kernel_rfl) (fun _ _ _ _ h => h) (by rfl) hHeld ?_
          apply Exists.intro
          apply And.intro
          · intro W3 hS3
            go_simp
            try rfl
          try simp only [Act.put, List.getElem_toArray, List.getElem_cons_zero, List.getElem_cons_succ, List.setIfInBounds_toArray, List.set_cons_zero, List.set_cons_succ]
          refine takeY (i := 11) rfl (by kernel_rfl) (by kernel_rfl) (by kernel_rfl) (fun _ _ _ _ h => h) (by rfl) hHeld ?_
          apply Exists.intro
          apply And.intro
          · intro W3 hS3
            go_simp
            try rfl
          try simp only [Act.put, List.getElem_toArray, List.getElem_cons_zero, List.getElem_cons_succ, List.setIfInBounds_toArray, List.set_cons_zero, List.set_cons_succ]
          refine takeY (i := 12) rfl (by kernel_rfl) (by kernel_rfl) (by kernel_rfl) (fun _ _ _ _ h => h) (by rfl) hHeld ?_
          apply Exists.intro
          apply And.intro
          · intro W3 hS3
            go_simp
            try rfl
          try simp only [Act.put, List.getElem_toArray, List.getElem_cons_zero, List.getElem_cons_succ, List.setIfInBounds_toArray, List.set_cons_zero, List.set_cons_succ]
          refine takeY (i := 13) rfl (by kernel_rfl) (by kernel_rfl) (by kernel_rfl) (fun _ _ _ _ h => h) (by rfl) hHeld ?_
          apply Exists.intro
          apply And.intro
          · intro W3 hS3
            go_simp
            try rfl
          try simp only [Act.put, List.getElem_toArray, List.getElem_cons_zero, List.getElem_cons_succ, List.setIfInBounds_toArray, List.set_cons_zero, List.set_cons_succ]
          refine takeY (i := 14) rfl (by kernel_rfl) (by kernel_rfl) (by kernel_rfl) (fun _ _ _ _ h => h) (by rfl) hHeld ?_
          apply Exists.intro
          apply And.intro
          · intro W3 hS3
            go_simp
            try rfl
          try simp only [Act.put, List.getElem_toArray, List.getElem_cons_zero, List.getElem_cons_succ, List.setIfInBounds_toArray, List.set_cons_zero, List.set_cons_succ]
          refine takeY (i := 15) rfl (by kernel_rfl) (by kernel_rfl) (by kernel_rfl) (fun _ _ _ _ h => h) (by rfl) hHeld ?_
          apply Exists.intro
          apply And.intro
          · intro W3 hS3
            go_simp
            try rfl
          try simp only [Act.put, List.getElem_toArray, List.getElem_cons_zero, List.getElem_cons_succ, List.setIfInBounds_toArray, List.set_cons_zero, List.set_cons_succ]
          refine takeY (i := 16) rfl (by kernel_rfl) (by kernel_rfl) (by kernel_rfl) (fun _ _ _ _ h => h) (by rfl) hHeld ?_
          apply Exists.intro
          apply And.intro
          · intro W3 hS3
            go_simp
            try rfl
          try simp only [Act.put, List.getElem_toArray, List.getElem_cons_zero, List.getElem_cons_succ, List.setIfInBounds_toArray, List.set_cons_zero, List.set_cons_succ]
          refine takeY (i := 17) rfl (by kernel_rfl) (by kernel_rfl) (by kernel_rfl) (fun _ _ _ _ h => h) (by rfl) hHeld ?_
          apply Exists.intro
          apply And.intro
          · intro W3 hS3
            go_simp
            try rfl
          try simp only [Act.put, List.getElem_toArray, List.getElem_cons_zero, List.getElem_cons_succ, List.setIfInBounds_toArray, List.set_cons_zero, List.set_cons_succ]
          refine takeY (i := 18) rfl (by kernel_rfl) (by kernel_rfl) (by kernel_rfl) (fun _ _ _ _ h => h) (by rfl) hHeld ?_
          apply Exists.intro
          apply And.intro
          · intro W3 hS3
            go_simp
            try rfl
          try simp only [Act.put, List.getElem_toArray, List.getElem_cons_zero, List.getElem_cons_succ, List.setIfInBounds_toArray, List.set_cons_zero, List.set_cons_succ]
          refine takeY (i := 19) rfl (by kernel_rfl) (by kernel_rfl) (by kernel_rfl) (fun _ _ _ _ h => h) (by rfl) hHeld ?_
          apply Exists.intro
          apply And.intro
          · intro W3 hS3
            go_simp
            try rfl
          try simp only [Act.put, List.getElem_toArray, List.getElem_cons_zero, List.getElem_cons_succ, List.setIfInBounds_toArray, List.set_cons_zero, List.set_cons_succ]
          refine takeY (i := 20) rfl (by kernel_rfl) (by kernel_rfl) (by kernel_rfl) (fun _ _ _ _ h => h) (by rfl) hHeld ?_
          apply Exists.intro
          apply And.intro
          · intro W3 hS3
            go_simp
            try rfl
          try simp only [Act.put, List.getElem_toArray, List.getElem_cons_zero, List.getElem_cons_succ, List.setIfInBounds_toArray, List.set_cons_zero, List.set_cons_succ]
          refine wpAnyH_ready (rs := [21]) (by kernel_rfl) (by simp) ?_
          refine (AllReadyH.cons rfl (fun K hK => ?_) AllReadyH.nil)
          go_simp
          refine (HG2.out _ hHeld).mono ?_
          rintro e w2 ⟨rfl, hb2⟩
          have hk2 := KB.call (w := wr) hHeld hb2
          clear hb2
          dsimp only
          refine hK.out _ _ hk2 (fun hHeld => ?_)
          clear hK K hk2
          try simp only [Act.put, List.getElem_toArray, List.getElem_cons_zero, List.getElem_cons_succ, List.setIfInBounds_toArray, List.set_cons_zero, List.set_cons_succ]
          refine takeY (i := 22) rfl (by kernel_rfl) (by kernel_rfl) (by kernel_rfl) (fun _ _ _ _ h => h) (by rfl) hHeld ?_
          apply Exists.intro
          apply And.intro
          · intro W3 hS3
            go_simp
            try rfl
          try simp only [Act.put, List.getElem_toArray, List.getElem_cons_zero, List.getElem_cons_succ, List.setIfInBounds_toArray, List.set_cons_zero, List.set_cons_succ]
          refine takeY (i := 23) rfl (by kernel_rfl) (by kernel_rfl) (by kernel_rfl) (fun _ _ _ _ h => h) (by rfl) hHeld ?_
          apply Exists.intro
          apply And.intro
          · intro W3 hS3
            go_simp
            try rfl
          try simp only [Act.put, List.getElem_toArray, List.getElem_cons_zero, List.getElem_cons_succ, List.setIfInBounds_toArray, List.set_cons_zero, List.set_cons_succ]
          refine wpAnyH_done (by kernel_rfl) ?_ _
          try simp only [Exit.then]
          have HB5 := Lib.hid (HBW.out.trans (hHeld.mono HBW.out.size))
          clear hHeld
          go_wp2
          go_roundw
          case rel => exact ⟨k + 1, by omega, by go_num, Lib.hid (HNX.out rfl), HB5⟩
          case measure => simp [intOf]; omega
        | false =>
          go_wp2
          refine wp_region_held_drew (S := KB wr) (by kernel_rfl) (KB.drew (KB.refl _)) (fun hHeld => ?_)
          refine takeY (i := 0) rfl (by kernel_rfl) (by kernel_rfl) (by kernel_rfl) (fun _ _ _ _ h => h) (by rfl) hHeld ?_
          apply Exists.intro
          apply And.intro
          · intro W3 hS3
            go_simp
            try rfl
          try simp only [Act.put, List.getElem_toArray, List.getElem_cons_zero, List.getElem_cons_succ, List.setIfInBounds_toArray, List.set_cons_zero, List.set_cons_succ]
          refine takeY (i := 1) rfl (by kernel_rfl) (by kernel_rfl) (by kernel_rfl) (fun _ _ _ _ h => h) (by rfl) hHeld ?_
          apply Exists.intro
          apply And.intro
          · intro W3 hS3
            go_simp
            try rfl
          try simp only [Act.put, List.getElem_toArray, List.getElem_cons_zero, List.getElem_cons_succ, List.setIfInBounds_toArray, List.set_cons_zero, List.set_cons_succ]
          refine takeY (i := 2) rfl (by kernel_rfl) (by kernel_rfl) (by kernel_rfl) (fun _ _ _ _ h => h) (by rfl) hHeld ?_
          apply Exists.intro
          apply And.intro
          · intro W3 hS3
            go_simp
            try rfl
          try simp only [Act.put, List.getElem_toArray, List.getElem_cons_zero, List.getElem_cons_succ, List.setIfInBounds_toArray, List.set_cons_zero, List.set_cons_succ]
          refine takeY (i := 3) rfl (by kernel_rfl) (by kernel_rfl) (by kernel_rfl) (fun _ _ _ _ h => h) (by rfl) hHeld ?_
          apply Exists.intro
          apply And.intro
          · intro W3 hS3
            go_simp
            try rfl
          try simp only [Act.put, List.getElem_toArray, List.getElem_cons_zero, List.getElem_cons_succ, List.setIfInBounds_toArray, List.set_cons_zero, List.set_cons_succ]
          refine takeY (i := 4) rfl (by kernel_rfl) (by kernel_rfl) (by kernel_rfl) (fun _ _ _ _ h => h) (by rfl) hHeld ?_
          apply Exists.intro
          apply And.intro
          · intro W3 hS3
            go_simp
            try rfl
          try simp only [Act.put, List.getElem_toArray, List.getElem_cons_zero, List.getElem_cons_succ, List.setIfInBounds_toArray, List.set_cons_zero, List.set_cons_succ]
          refine takeY (i := 5) rfl (by kernel_rfl) (by kernel_rfl) (by kernel_rfl) (fun _ _ _ _ h => h) (by rfl) hHeld ?_
          apply Exists.intro
          apply And.intro
          · intro W3 hS3
            go_simp
            try rfl
          try simp only [Act.put, List.getElem_toArray, List.getElem_cons_zero, List.getElem_cons_succ, List.setIfInBounds_toArray, List.set_cons_zero, List.set_cons_succ]
          refine takeY (i := 6) rfl (by kernel_rfl) (by kernel_rfl) (by kernel_rfl) (fun _ _ _ _ h => h) (by rfl) hHeld ?_
          apply Exists.intro
          apply And.intro
          · intro W3 hS3
            go_simp
            try rfl
          try simp only [Act.put, List.getElem_toArray, List.getElem_cons_zero, List.getElem_cons_succ, List.setIfInBounds_toArray, List.set_cons_zero, List.set_cons_succ]
          refine takeY (i := 7) rfl (by kernel_rfl) (by kernel_rfl) (by kernel_rfl) (fun _ _ _ _ h => h) (by rfl) hHeld ?_
          apply Exists.intro
          apply And.intro
          · intro W3 hS3
            go_simp
            try rfl
          try simp only [Act.put, List.getElem_toArray, List.getElem_cons_zero, List.getElem_cons_succ, List.setIfInBounds_toArray, List.set_cons_zero, List.set_cons_succ]
          refine takeY (i := 8) rfl (by kernel_rfl) (by kernel_rfl) (by kernel_rfl) (fun _ _ _ _ h => h) (by rfl) hHeld ?_
          apply Exists.intro
          apply And.intro
          · intro W3 hS3
            go_simp
            try rfl
          try simp only [Act.put, List.getElem_toArray, List.getElem_cons_zero, List.getElem_cons_succ, List.setIfInBounds_toArray, List.set_cons_zero, List.set_cons_succ]
          refine wpAnyH_ready (rs := [9]) (by kernel_rfl) (by simp) ?_
          refine (AllReadyH.cons rfl (fun K hK => ?_) AllReadyH.nil)
          go_simp
          refine (HG1.out _ hHeld).mono ?_
          rintro e w2 ⟨rfl, hb2⟩
          have hk2 := KB.call (w := wr) hHeld hb2
          clear hb2
          dsimp only
          refine hK.out _ _ hk2 (fun hHeld => ?_)
          clear hK K hk2
          try simp only [Act.put, List.getElem_toArray, List.getElem_cons_zero, List.getElem_cons_succ, List.setIfInBounds_toArray, List.set_cons_zero, List.set_cons_succ]
          refine takeY (i := 10) rfl (by kernel_rfl) (by kernel_rfl) (by kernel_rfl) (fun _ _ _ _ h => h) (by rfl) hHeld ?_
          apply Exists.intro
          apply And.intro
          · intro W3 hS3
            go_simp
            try rfl
          try simp only [Act.put, List.getElem_toArray, List.getElem_cons_zero, List.getElem_cons_succ, List.setIfInBounds_toArray, List.set_cons_zero, List.set_cons_succ]
          refine takeY (i := 11) rfl (by kernel_rfl) (by kernel_rfl) (by kernel_rfl) (fun _ _ _ _ h => h) (by rfl) hHeld ?_
          apply Exists.intro
          apply And.intro
          · intro W3 hS3
            go_simp
            try rfl
          try simp only [Act.put, List.getElem_toArray, List.getElem_cons_zero, List.getElem_cons_succ, List.setIfInBounds_toArray, List.set_cons_zero, List.set_cons_succ]
          refine takeY (i := 12) rfl (by kernel_rfl) (by kernel_rfl) (by kernel_rfl) (fun _ _ _ _ h => h) (by rfl) hHeld ?_
          apply Exists.intro
          apply And.intro
          · intro W3 hS3
            go_simp
            try rfl
          try simp only [Act.put, List.getElem_toArray, List.getElem_cons_zero, List.getElem_cons_succ, List.setIfInBounds_toArray, List.set_cons_zero, List.set_cons_succ]
          refine takeY (i := 13) rfl (by kernel_rfl) (by kernel_rfl) (by kernel_rfl) (fun _ _ _ _ h => h) (by rfl) hHeld ?_
          apply Exists.intro
          apply And.intro
          · intro W3 hS3
            go_simp
            try rfl
          try simp only [Act.put, List.getElem_toArray, List.getElem_cons_zero, List.getElem_cons_succ, List.setIfInBounds_toArray, List.set_cons_zero, List.set_cons_succ]
          refine takeY (i := 14) rfl (by kernel_rfl) (by kernel_rfl) (by kernel_rfl) (fun _ _ _ _ h => h) (by rfl) hHeld ?_
          apply Exists.intro
          apply And.intro
          · intro W3 hS3
            go_simp
            try rfl
          try simp only [Act.put, List.getElem_toArray, List.getElem_cons_zero, List.getElem_cons_succ, List.setIfInBounds_toArray, List.set_cons_zero, List.set_cons_succ]
          refine takeY (i := 15) rfl (by kernel_rfl) (by kernel_rfl) (by kernel_rfl) (fun _ _ _ _ h => h) (by rfl) hHeld ?_
          apply Exists.intro
          apply And.intro
          · intro W3 hS3
            go_simp
            try rfl
          try simp only [Act.put, List.getElem_toArray, List.getElem_cons_zero, List.getElem_cons_succ, List.setIfInBounds_toArray, List.set_cons_zero, List.set_cons_succ]
          refine takeY (i := 16) rfl (by kernel_rfl) (by kernel_rfl) (by kernel_rfl) (fun _ _ _ _ h => h) (by rfl) hHeld ?_
          apply Exists.intro
          apply And.intro
          · intro W3 hS3
            go_simp
            try rfl
          try simp only [Act.put, List.getElem_toArray, List.getElem_cons_zero, List.getElem_cons_succ, List.setIfInBounds_toArray, List.set_cons_zero, List.set_cons_succ]
          refine takeY (i := 17) rfl (by kernel_rfl) (by kernel_rfl) (by kernel_rfl) (fun _ _ _ _ h => h) (by rfl) hHeld ?_
          apply Exists.intro
          apply And.intro
          · intro W3 hS3
            go_simp
            try rfl
          try simp only [Act.put, List.getElem_toArray, List.getElem_cons_zero, List.getElem_cons_succ, List.setIfInBounds_toArray, List.set_cons_zero, List.set_cons_succ]
          refine takeY (i := 18) rfl (by kernel_rfl) (by kernel_rfl) (by kernel_rfl) (fun _ _ _ _ h => h) (by rfl) hHeld ?_
          apply Exists.intro
          apply And.intro
          · intro W3 hS3
            go_simp
            try rfl
          try simp only [Act.put, List.getElem_toArray, List.getElem_cons_zero, List.getElem_cons_succ, List.setIfInBounds_toArray, List.set_cons_zero, List.set_cons_succ]
          refine takeY (i := 19) rfl (by kernel_rfl) (by kernel_rfl) (by kernel_rfl) (fun _ _ _ _ h => h) (by rfl) hHeld ?_
          apply Exists.intro
          apply And.intro
          · intro W3 hS3
            go_simp
            try rfl
          try simp only [Act.put, List.getElem_toArray, List.getElem_cons_zero, List.getElem_cons_succ, List.setIfInBounds_toArray, List.set_cons_zero, List.set_cons_succ]
          refine takeY (i := 20) rfl (by kernel_rfl) (by kernel_rfl) (by kernel_rfl) (fun _ _ _ _ h => h) (by rfl) hHeld ?_
          apply Exists.intro
          apply And.intro
          · intro W3 hS3
            go_simp
            try rfl
          try simp only [Act.put, List.getElem_toArray, List.getElem_cons_zero, List.getElem_cons_succ, List.setIfInBounds_toArray, List.set_cons_zero, List.set_cons_succ]
          refine wpAnyH_ready (rs := [21]) (by kernel_rfl) (by simp) ?_
          refine (AllReadyH.cons rfl (fun K hK => ?_) AllReadyH.nil)
          go_simp
          refine (HG2.out _ hHeld).mono ?_
          rintro e w2 ⟨rfl, hb2⟩
          have hk2 := KB.call (w := wr) hHeld hb2
          clear hb2
          dsimp only
          refine hK.out _ _ hk2 (fun hHeld => ?_)
          clear hK K hk2
          try simp only [Act.put, List.getElem_toArray, List.getElem_cons_zero, List.getElem_cons_succ, List.setIfInBounds_toArray, List.set_cons_zero, List.set_cons_succ]
          refine takeY (i := 22) rfl (by kernel_rfl) (by kernel_rfl) (by kernel_rfl) (fun _ _ _ _ h => h) (by rfl) hHeld ?_
          apply Exists.intro
          apply And.intro
          · intro W3 hS3
            go_simp
            try rfl
          try simp only [Act.put, List.getElem_toArray, List.getElem_cons_zero, List.getElem_cons_succ, List.setIfInBounds_toArray, List.set_cons_zero, List.set_cons_succ]
          refine takeY (i := 23) rfl (by kernel_rfl) (by kernel_rfl) (by kernel_rfl) (fun _ _ _ _ h => h) (by rfl) hHeld ?_
          apply Exists.intro
          apply And.intro
          · intro W3 hS3
            go_simp
            try rfl
          try simp only [Act.put, List.getElem_toArray, List.getElem_cons_zero, List.getElem_cons_succ, List.setIfInBounds_toArray, List.set_cons_zero, List.set_cons_succ]
          refine wpAnyH_done (by kernel_rfl) ?_ _
          try simp only [Exit.then]
          have HB5 := Lib.hid (HBW.out.trans (hHeld.mono HBW.out.size))
          clear hHeld
          go_wp2
          go_ret
          have HJ := HNO.out rfl
          refine ⟨by rw [HJ]; rfl, vs, ?_, ?_, ?_⟩
          · rw [HJ]; exact HRF.out.below HB5.out
          · rw [HJ]; exact fun i hi h0 g hg => .inl ⟨i, hi, h0, hg⟩
          · exact Off.of_below (HBL.out.trans (HB5.out.mono HBL.out.size))
    · obtain rfl : k = 4 := by omega
      have HFA : Hid (∀ i, i < 4 → fitL (b i) (b2 i) = true) := Lib.hid HF.out
      have HJO := Lib.hid (joinV_of HFA.out)
      have HJ0 : Hid (JnR P n vs vs2 b b2 w 0 vs wr) := Lib.hid ⟨by
        have h9 := HRF.out.below HBW.out
        exact ⟨h9.1, fun i hi => h9.2 i hi⟩, fun i hi h0 g hg => .inl ⟨i, hi, h0, hg⟩, by rw [← HW.out]; exact Off.of_below HBW.out⟩
      obtain ⟨i0, hi0, hz0, hz1, hz2⟩ := info_parts Tryz.infoEnt
      clear HF HBW hk
      rw [show ((4 : Nat) : Int) = 4 from rfl]
      go_wp2
      go_loopw [6] (fun i wr => ∃ (k : Nat) (us : Nat → Value), k ≤ 4 ∧ i = .int .i64 k ∧ Hid (JnR P n vs vs2 b b2 w k us wr)) (fun i _ => 4 - (intOf i).toNat)
      case atStart => exact ⟨0, vs, by omega, rfl, HJ0⟩
      case round =>
        obtain ⟨k, us, hk, rfl, HJ⟩ := hrel
        by_cases hlt : k < 4
        · have hlt2 : (k : Int) < 4 := by omega
          have hge : (0 : Int) ≤ (k : Int) := by omega
          have HOB := Lib.hid (HJ.out.off)
          rw [← HW.out] at HOB
          have HXK := Lib.hid ((HOB.out.block w.heap.size (Array.getElem?_eq_some_iff.1 HBX.out).1 (by simp; have := HPW.out; omega)).trans HBX.out)
          have HE2 : Hid (EntsAt wr (vs2 k) (b2 k)) := Lib.hid ((H2.out k hlt).keep fun h0 g hg => HOB.out.block g ((H2.out k hlt).lt h0 hg) (by
            have h9 := HNE2.out k hlt h0
            rw [hg] at h9
            simpa using h9))
          have c1 := HJ.out.post.cell hlt
          have c2 : wr.cell? ⟨w.heap.size, k, none⟩ = some (vs2 k) := by
            rcases (show k = 0 ∨ k = 1 ∨ k = 2 ∨ k = 3 by omega) with rfl | rfl | rfl | rfl <;> exact heap_cell HXK.out rfl
          have HE1 := Lib.hid (HJ.out.post.2 k hlt)
          rw [show joinK b b2 k k = b k by unfold joinK; rw [if_neg (Nat.lt_irrefl k)]] at HE1
          obtain ⟨a1, k1, hu⟩ := HE1.out.shape
          obtain ⟨a2, k2, hv2⟩ := HE2.out.shape
          rw [hu] at c1
          rw [hv2] at c2 HE2
          have HU := Lib.hid hu
          have HFK := Lib.hid (HFA.out k hlt)
          have hl2 := (HOK2.out k hlt).len
          obtain ⟨n1, hn1⟩ : ∃ n, n = (b k).length := ⟨_, rfl⟩
          obtain ⟨n2, hn2⟩ : ∃ n, n = (b2 k).length := ⟨_, rfl⟩
          have HN1 := Lib.hid hn1
          have HN2 := Lib.hid hn2
          rw [← hn1] at c1 HU
          rw [← hn2] at c2 hl2
          have HE2' : Hid (EntsAt wr (.slice a2 n2 k2) (b2 k)) := Lib.hid (by rw [hn2]; exact HE2.out)
          clear hn1 hn2 hu hv2 HE2 HE1
          by_cases hl : n1 < n2
          · have hli : (n1 : Int) < (n2 : Int) := by omega
            obtain ⟨g2, o2, rfl⟩ : ∃ g2 o2, a2 = some ⟨g2, o2, none⟩ := by
              obtain ⟨g, o, c, hv, _⟩ := HE2'.out.entry (k := 0) (by rw [← HN2.out]; omega)
              simp only [Value.slice.injEq] at hv
              exact ⟨g, o, hv.1⟩
            go_wp2
            go_quiet (fail)
            go_wp2
            refine wp_forget1 (fun W5 hX5 => ?_)
            have HJ5 := Lib.hid (HJ.out.below hX5)
            have HE5 := Lib.hid (HE2'.out.below hX5)
            have c1a := keep_cell hX5 c1
            have c2a := keep_cell hX5 c2
            have c2b : (W5.alloc (.cells #[] 43)).cell? ⟨w.heap.size, k, none⟩ = some (.slice (some ⟨g2, o2, none⟩) n2 k2) := keep_cell ((Below.refl _ _).alloc (Nat.le_refl _) _) c2a
            clear c1 c2 hX5
            obtain ⟨W6, hW6⟩ : ∃ W6, W6 = (W5.alloc (.cells #[] 43)).drew := ⟨_, rfl⟩
            have HX6 : Hid (Below W5.heap.size W5 W6) := Lib.hid (by rw [hW6]; exact ((Below.refl _ _).alloc (Nat.le_refl _) _).drew)
            have HNW : Hid (W6.heap[W5.heap.size]? = some (.cells #[] 43 (0, 0))) := Lib.hid (by rw [hW6]; exact World.alloc_heap_new W5 _)
            have HSZ6 : Hid (W5.heap.size < W6.heap.size) := Lib.hid (Array.getElem?_eq_some_iff.1 HNW.out).1
            have HAP : Hid (∀ ty, ∃ v' W', (Builtin.append_ #[40, 40] ty #[.slice (some ⟨W5.heap.size, 0, none⟩) 0 0, .slice (some ⟨g2, o2, none⟩) n2 k2]).run Tryz.prog W6 = .ok v' W' ∧
                (W'.ownsRow W5.heap.size 43 4 v' (0 + n2) ([] ++ rowE (b2 k)) ∧ W6.grownBy W' (Value.slice (some ⟨W5.heap.size, 0, none⟩) 0 0).ownBlock)) := Lib.hid (fun ty => by
              obtain ⟨v', W', hrun, hown, hgr, _⟩ := run_append_own (P := Tryz.prog) (w := W6) W5.heap.size 40 ty 43 i0 _ 4 40 Tryz.underlying40 hi0 hz0 hz1 hz2 rfl (by decide) (.slice (some ⟨W5.heap.size, 0, none⟩) 0 0) 0 [] (own_none W6 _ _ 4 HNW.out (Nat.le_refl _)) ⟨g2, o2, none⟩ n2 k2 (rowE (b2 k)) (by rw [rowE_len, HN2.out]) (by
                have h9 := (HE5.out.below HX6.out)
                rw [HN2.out] at h9
                exact h9.news) (rowE_one _) (by unfold maxLen; omega) (by omega) (by have := HSZ6.out; omega)
              exact ⟨v', W', hrun, hown, hgr⟩)
            have HNX := Lib.hid (fun (v' : Value) (W7 : World) (hR : W7.ownsRow W5.heap.size 43 4 v' (0 + n2) ([] ++ rowE (b2 k)) ∧ W6.grownBy W7 (Value.slice (some ⟨W5.heap.size, 0, none⟩) 0 0).ownBlock) => HJ5.out.next (v' := v') (W7 := W7) hlt HPW.out HNE.out HFK.out (by rw [← HN1.out, ← HN2.out]; exact hl)
              (by
                have h9 := own_base hR.1 (Nat.zero_le _)
                rw [Nat.zero_add, List.nil_append, HN2.out] at h9
                exact ListAt.ents h9 (by rw [← HN2.out]; omega))
              (fun g hg => hR.1.lt g hg)
              ((Off.of_below HX6.out).grown hR.2 (fun k e => by
                have : k = W5.heap.size := by simpa [Value.ownBlock] using e.symm
                omega)))
            rw [HU.out] at HNX
            have HW6 := Lib.hid hW6
            clear hW6
            go_region_law (first
              | ((rw [← HW6.out]; refine step_append_run (by rfl) _ _ _ (by rfl) (.slice (some ⟨W5.heap.size, 0, none⟩) 0 0) (.slice (some ⟨g2, o2, none⟩) n2 k2) (by rfl) (by rfl) (fun v' W' => W'.ownsRow W5.heap.size 43 4 v' (0 + n2) ([] ++ rowE (b2 k)) ∧ W6.grownBy W' (Value.slice (some ⟨W5.heap.size, 0, none⟩) 0 0).ownBlock) (HAP.out _) ?_; intro v' W7 hR; have HR := Lib.hid (HNX.out v' W7 hR); obtain ⟨va, vc, rfl⟩ := own_shape2 hR.1; obtain ⟨c7, f7⟩ := HR.out.2; clear hR))
              | fail)
            all_goals
              go_wp2
              go_roundw
              case rel =>
                refine ⟨k + 1, setVs us k (.slice va n2 vc), by omega, by go_num, Lib.hid ?_⟩
                have h9 := HR.out.1
                rw [Nat.zero_add] at h9
                exact h9
              case measure => simp [intOf]; omega
          · have hli : ¬ (n1 : Int) < (n2 : Int) := by omega
            have HSK := Lib.hid (fun q => HJ.out.skip HFK.out (by rw [← HN1.out, ← HN2.out]; exact hl) q)
            go_wp2
            go_quiet (fail)
            have HS2 := Lib.hid (HSK.out nq)
            go_wp2
            go_roundw
            case rel => exact ⟨k + 1, us, by omega, by go_num, HS2⟩
            case measure => simp [intOf]; omega
        · obtain rfl : k = 4 := by omega
          go_wp2
          go_ret
          refine ⟨by rw [HJO.out]; rfl, us, ?_, ?_, ?_⟩
          · rw [HJO.out]
            have h9 := HJ.out.post
            refine ⟨h9.1, fun i hi => ?_⟩
            have := h9.2 i hi
            unfold joinK at this
            rw [if_pos hi] at this
            exact this
          · rw [HJO.out]
            intro i hi h0 g hg
            exact HJ.out.rows i hi (by unfold joinK; rw [if_pos hi]; exact h0) g hg
          · have h9 := HJ.out.off
            exact (Off.of_below ((Below.refl _ w).alloc (Nat.le_refl _) _)).trans (h9.mono fun k hk => .inl hk)
end Go.Proofs.YtdfkaijeppdhaaaGreatDoor

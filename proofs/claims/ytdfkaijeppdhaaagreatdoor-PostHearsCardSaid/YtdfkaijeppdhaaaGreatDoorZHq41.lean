/- Texts of this claim, laid together: Pw, Ds. -/
import Derived.Test.YtdfkaijeppdhaaaGreatDoorZHq40
import Derived.Test.YtdfkaijeppdhaaaGreatDoorZHq07
import Derived.Test.YtdfkaijeppdhaaaGreatDoorZHq02

/- Contracts: print.newPair. -/
namespace Go.Proofs.YtdfkaijeppdhaaaGreatDoor
open Go.RowKit Go.Shelf
set_option maxHeartbeats 400000 in
theorem costs_print (w : World) :
    Calls Tryz.prog 235 #[.agg #[.int .i64 1, .int .i64 1]] w fun e w' => e = .returned (.bool true) ∧ Below w.heap.size w w' := by
  have HB : Hid (∀ W, Calls Tryz.prog 252 #[.int .i64 1, .int .i64 1, .int .i64 9] W fun e w' => e = .returned (.bool true) ∧ w' = W) := Lib.hid (fun W => by
    go_enter Tryz.func252, Tryz.ntmps252
    go_wp2
    go_ret
    exact ⟨rfl, rfl⟩)
  go_enter Tryz.func235, Tryz.ntmps235
  go_wp2_with (first | (go_at_call 252; refine (HB.out _).mono ?_; rintro e w1 ⟨rfl, rfl⟩) | fail)
  go_ret
  exact ⟨rfl, (Below.refl _ _).alloc (Nat.le_refl _) _⟩
def pairV (s t : ByteArray) : Value := .agg #[.string s, .string t, .int .i64 1, .int .i64 1]
def pair0 : Value := .agg #[.string ⟨#[]⟩, .string ⟨#[]⟩, .int .i64 0, .int .i64 0]
/-- Two prints. -/
def bothP (s t : ByteArray) : Bool := printB s && printB t
set_option maxRecDepth 100000 in
set_option maxHeartbeats 1000000 in
theorem newPair_any (s t : ByteArray) (hs : s.size ≤ 1000000) (ht : t.size ≤ 1000000) (w : World) :
    Calls Tryz.prog 198 #[.string s, .string t, .agg #[.int .i64 1, .int .i64 1]] w fun e w' => e = .returned (.tuple #[if bothP s t then pairV s t else pair0, .int .i64 (if bothP s t then 0 else 90)]) ∧ Below w.heap.size w w' := by
  have HS := Lib.hid (fun W => valid_print s W hs)
  have HT := Lib.hid (fun W => valid_print t W ht)
  have HC := Lib.hid costs_print
  have HV := Lib.hid (fun W (x : ByteArray) (hx : x.size ≤ 1000000) => valid_print x W hx)
  clear HS HT
  unfold bothP pairV pair0
  obtain ⟨w1, hw1⟩ : ∃ w1, w1 = (w.alloc (.cells #[.int .i64 1, .int .i64 1] 176)).alloc (.cells #[.string ⟨#[]⟩, .string ⟨#[]⟩, .int .i64 0, .int .i64 0] 253) := ⟨_, rfl⟩
  have hb1 : Below w.heap.size w w1 := by rw [hw1]; exact ((Below.refl _ w).alloc (Nat.le_refl _) _).alloc (by simp) _
  have HW1 := Lib.hid hw1
  have HB1 := Lib.hid hb1
  have HZ1 : Hid (w1.heap.size = w.heap.size + 2) := Lib.hid (by rw [hw1]; simp)
  have HE1 : Hid (w1.heap[w.heap.size]? = some (.cells #[.int .i64 1, .int .i64 1] 176 (0, 0))) := Lib.hid (by
    rw [hw1]; exact (Below.heap_alloc _ _ _ (by simp)).trans (World.alloc_heap_new w _))
  have HE2 : Hid (w1.heap[w.heap.size + 1]? = some (.cells #[.string ⟨#[]⟩, .string ⟨#[]⟩, .int .i64 0, .int .i64 0] 253 (0, 0))) := Lib.hid (by
    have := World.alloc_heap_new (w.alloc (.cells #[.int .i64 1, .int .i64 1] 176)) (.cells #[.string ⟨#[]⟩, .string ⟨#[]⟩, .int .i64 0, .int .i64 0] 253)
    rw [World.size_alloc] at this
    rw [hw1]; exact this)
  clear hw1 hb1
  cases h1 : printB s with
  | false =>
    have H1 := Lib.hid h1
    clear h1
    simp only [Bool.false_and, Bool.false_eq_true, if_false]
    go_enter Tryz.func198, Tryz.ntmps198
    go_upto_region 1 with fail
    rw [← HW1.out]
    go_upto_region 2 with (first | (go_at_call 234; refine (HV.out _ _ hs).mono ?_; rintro e W2 ⟨rfl, hb2⟩; rw [H1.out]) | fail)
    have HB2 := Lib.hid hb2
    clear hb2
    have hsz : w.heap.size + 2 ≤ W2.heap.size := by have := HB2.out.size; have := HZ1.out; omega
    have hh := (HB2.out.block _ (by have := HZ1.out; omega)).trans HE2.out
    have c0 : W2.cell? ⟨w.heap.size + 1, 0, none⟩ = some (.string ⟨#[]⟩) := heap_cell (j := 0) hh rfl
    have c1 : W2.cell? ⟨w.heap.size + 1, 1, none⟩ = some (.string ⟨#[]⟩) := heap_cell (j := 1) hh rfl
    have c2 : W2.cell? ⟨w.heap.size + 1, 2, none⟩ = some (.int .i64 0) := heap_cell (j := 2) hh rfl
    have c3 : W2.cell? ⟨w.heap.size + 1, 3, none⟩ = some (.int .i64 0) := heap_cell (j := 3) hh rfl
    have f0 : W2.frozen? ⟨w.heap.size + 1, 0, none⟩ = false := by simp [World.frozen?, hh]
    have f1 : W2.frozen? ⟨w.heap.size + 1, 1, none⟩ = false := by simp [World.frozen?, hh]
    have f2 : W2.frozen? ⟨w.heap.size + 1, 2, none⟩ = false := by simp [World.frozen?, hh]
    have f3 : W2.frozen? ⟨w.heap.size + 1, 3, none⟩ = false := by simp [World.frozen?, hh]
    have HBW := Lib.hid (HB1.out.trans (HB2.out.mono HB1.out.size))
    have hk := (HB2.out.block _ (by have := HZ1.out; omega)).trans HE1.out
    have d0 := heap_cell (j := 0) hk rfl
    have d1 := heap_cell (j := 1) hk rfl
    go_wp2
    refine bodyPost_ret (v := .tuple #[.agg #[.string ⟨#[]⟩, .string ⟨#[]⟩, .int .i64 0, .int .i64 0], .int .i64 90]) (by simp [results, Tryz.results198, go_sem, c0, c1, c2, c3]) rfl ⟨rfl, ?_⟩
    exact (((HBW.out.setCell (p := ⟨w.heap.size + 1, 0, none⟩) (Nat.le_succ _) _).setCell (p := ⟨w.heap.size + 1, 1, none⟩) (Nat.le_succ _) _).setCell (p := ⟨w.heap.size + 1, 2, none⟩) (Nat.le_succ _) _).setCell (p := ⟨w.heap.size + 1, 3, none⟩) (Nat.le_succ _) _
  | true =>
    have H1 := Lib.hid h1
    clear h1
    cases h2 : printB t with
    | false =>
      have H2 := Lib.hid h2
      clear h2
      simp only [Bool.and_false, Bool.false_eq_true, if_false]
      go_enter Tryz.func198, Tryz.ntmps198
      go_upto_region 1 with fail
      rw [← HW1.out]
      go_upto_region 2 with (first | (go_at_call 234; refine (HV.out _ _ (by assumption)).mono ?_; rintro e W2 ⟨rfl, hb2⟩; first | (rw [H1.out]; have HBA := Lib.hid hb2; clear hb2) | (rw [H2.out]; have HB2 := Lib.hid (below_trans HBA.out hb2); clear hb2)) | fail)
      have hsz : w.heap.size + 2 ≤ W2.heap.size := by have := HB2.out.size; have := HZ1.out; omega
      have hh := (HB2.out.block _ (by have := HZ1.out; omega)).trans HE2.out
      have c0 : W2.cell? ⟨w.heap.size + 1, 0, none⟩ = some (.string ⟨#[]⟩) := heap_cell (j := 0) hh rfl
      have c1 : W2.cell? ⟨w.heap.size + 1, 1, none⟩ = some (.string ⟨#[]⟩) := heap_cell (j := 1) hh rfl
      have c2 : W2.cell? ⟨w.heap.size + 1, 2, none⟩ = some (.int .i64 0) := heap_cell (j := 2) hh rfl
      have c3 : W2.cell? ⟨w.heap.size + 1, 3, none⟩ = some (.int .i64 0) := heap_cell (j := 3) hh rfl
      have f0 : W2.frozen? ⟨w.heap.size + 1, 0, none⟩ = false := by simp [World.frozen?, hh]
      have f1 : W2.frozen? ⟨w.heap.size + 1, 1, none⟩ = false := by simp [World.frozen?, hh]
      have f2 : W2.frozen? ⟨w.heap.size + 1, 2, none⟩ = false := by simp [World.frozen?, hh]
      have f3 : W2.frozen? ⟨w.heap.size + 1, 3, none⟩ = false := by simp [World.frozen?, hh]
      have HBW := Lib.hid (HB1.out.trans (HB2.out.mono HB1.out.size))
      have hk := (HB2.out.block _ (by have := HZ1.out; omega)).trans HE1.out
      have d0 := heap_cell (j := 0) hk rfl
      have d1 := heap_cell (j := 1) hk rfl
      go_wp2
      refine bodyPost_ret (v := .tuple #[.agg #[.string ⟨#[]⟩, .string ⟨#[]⟩, .int .i64 0, .int .i64 0], .int .i64 90]) (by simp [results, Tryz.results198, go_sem, c0, c1, c2, c3]) rfl ⟨rfl, ?_⟩
      exact (((HBW.out.setCell (p := ⟨w.heap.size + 1, 0, none⟩) (Nat.le_succ _) _).setCell (p := ⟨w.heap.size + 1, 1, none⟩) (Nat.le_succ _) _).setCell (p := ⟨w.heap.size + 1, 2, none⟩) (Nat.le_succ _) _).setCell (p := ⟨w.heap.size + 1, 3, none⟩) (Nat.le_succ _) _
    | true =>
      have H2 := Lib.hid h2
      clear h2
      simp only [Bool.and_self, if_true]
      go_enter Tryz.func198, Tryz.ntmps198
      go_upto_region 1 with fail
      rw [← HW1.out]
      go_upto_region 3 with (first | (go_at_call 234; refine (HV.out _ _ (by assumption)).mono ?_; rintro e W3 ⟨rfl, hb2⟩; first | (rw [H1.out]; have HBA := Lib.hid hb2; clear hb2) | (rw [H2.out]; have HBC := Lib.hid (below_trans HBA.out hb2); clear hb2)) | fail)
      have hk3 := (HBC.out.block _ (by have := HZ1.out; omega)).trans HE1.out
      have e0 := heap_cell (j := 0) hk3 rfl
      have e1 := heap_cell (j := 1) hk3 rfl
      go_upto_region 5 with (first | (go_at_call 235; refine (HC.out _).mono ?_; rintro e W2 ⟨rfl, hb4⟩; have HB2 := Lib.hid (below_trans HBC.out hb4); clear hb4) | fail)
      have hsz : w.heap.size + 2 ≤ W2.heap.size := by have := HB2.out.size; have := HZ1.out; omega
      have hh := (HB2.out.block _ (by have := HZ1.out; omega)).trans HE2.out
      have c0 : W2.cell? ⟨w.heap.size + 1, 0, none⟩ = some (.string ⟨#[]⟩) := heap_cell (j := 0) hh rfl
      have c1 : W2.cell? ⟨w.heap.size + 1, 1, none⟩ = some (.string ⟨#[]⟩) := heap_cell (j := 1) hh rfl
      have c2 : W2.cell? ⟨w.heap.size + 1, 2, none⟩ = some (.int .i64 0) := heap_cell (j := 2) hh rfl
      have c3 : W2.cell? ⟨w.heap.size + 1, 3, none⟩ = some (.int .i64 0) := heap_cell (j := 3) hh rfl
      have f0 : W2.frozen? ⟨w.heap.size + 1, 0, none⟩ = false := by simp [World.frozen?, hh]
      have f1 : W2.frozen? ⟨w.heap.size + 1, 1, none⟩ = false := by simp [World.frozen?, hh]
      have f2 : W2.frozen? ⟨w.heap.size + 1, 2, none⟩ = false := by simp [World.frozen?, hh]
      have f3 : W2.frozen? ⟨w.heap.size + 1, 3, none⟩ = false := by simp [World.frozen?, hh]
      have HBW := Lib.hid (HB1.out.trans (HB2.out.mono HB1.out.size))
      have hk := (HB2.out.block _ (by have := HZ1.out; omega)).trans HE1.out
      have d0 := heap_cell (j := 0) hk rfl
      have d1 := heap_cell (j := 1) hk rfl
      go_wp2
      refine bodyPost_ret (v := .tuple #[.agg #[.string s, .string t, .int .i64 1, .int .i64 1], .int .i64 0]) (by simp [results, Tryz.results198, go_sem, c0, c1, c2, c3]) rfl ⟨rfl, ?_⟩
      exact (((HBW.out.setCell (p := ⟨w.heap.size + 1, 0, none⟩) (Nat.le_succ _) _).setCell (p := ⟨w.heap.size + 1, 1, none⟩) (Nat.le_succ _) _).setCell (p := ⟨w.heap.size + 1, 2, none⟩) (Nat.le_succ _) _).setCell (p := ⟨w.heap.size + 1, 3, none⟩) (Nat.le_succ _) _
end Go.Proofs.YtdfkaijeppdhaaaGreatDoor

/- Plain: what a deed looks like (Post). -/
namespace Go.Proofs.YtdfkaijeppdhaaaGreatDoor
open Go
/-- A deed: put, or one that does not begin as put does. -/
theorem deed_shape {s : ByteArray} {c : Cmd} (h : parseB s = some c) (hd : c.deed = true) : 4 ≤ s.size ∧
    ((∃ r0 t, c = .put r0 t ∧ isNameB r0 = true ∧ s.data.toList = [112, 117, 116, 32] ++ (r0.data.toList ++ 32 :: t.data.toList)) ∨ s.data.toList.take 4 ≠ [112, 117, 116, 32]) := by
  unfold parseB at h
  split at h
  · rename_i w r0 rs hs
    have he := splitA_cons hs (by simp)
    have hsz : s.size = w.data.toList.length + 1 + (joinS (r0 :: rs)).data.toList.length := by rw [ba_size, he]; simp; omega
    unfold lineB1 at h
    split at h
    · rename_i hw
      subst hw
      have h3 : putW.data.toList.length = 3 := rfl
      split at h
      · rename_i hc
        rw [Bool.and_eq_true, Bool.and_eq_true] at hc
        obtain ⟨⟨h1, h2⟩, _⟩ := hc
        cases h
        refine ⟨by omega, .inl ⟨r0, joinS rs, rfl, h1, ?_⟩⟩
        cases rs with
        | nil => simp [joinS, Lib.join, bsB] at h2
        | cons r1 rs =>
          rw [he, joinS_cons]
          rfl
      · cases h
    · split at h
      · rename_i hw
        subst hw
        have h3 : dropW.data.toList.length = 4 := rfl
        refine ⟨by omega, .inr ?_⟩
        rw [he, List.take_append_of_le_length (by omega)]
        decide
      · split at h
        · split at h
          · cases h; cases hd
          · cases h
        · split at h
          · rename_i hw
            subst hw
            have h3 : addW.data.toList.length = 3 := rfl
            refine ⟨by omega, .inr ?_⟩
            rw [he]
            show ([97, 100, 100] ++ 32 :: _ : List UInt8).take 4 ≠ _
            simp
          · split at h
            · split at h
              · split at h
                · cases h; cases hd
                · cases h
              · cases h
            · unfold aboutB at h
              split at h
              · cases h
              · split at h
                · cases h
                · split at h
                  · cases h; cases hd
                  · cases h
  · cases h
theorem Cmd.put_size {s x u : ByteArray} (h : parseB s = some (.put x u)) : u.size ≤ s.size := by
  obtain ⟨_, ⟨r0, t, hc, _, he⟩ | hne⟩ := deed_shape h rfl
  · cases hc
    rw [ba_size, ba_size s, he]
    simp
    omega
  · unfold parseB at h
    split at h
    · rename_i w r0 rs hs
      have he := splitA_cons hs (by simp)
      unfold lineB1 at h
      split at h
      · rename_i hw
        subst hw
        exact absurd (by rw [he]; rfl) hne
      · split at h
        · split at h <;> cases h
        · split at h
          · split at h <;> cases h
          · split at h
            · split at h
              · split at h <;> cases h
              · cases h
            · split at h
              · split at h
                · split at h <;> cases h
                · cases h
              · unfold aboutB at h
                split at h
                · cases h
                · split at h
                  · cases h
                  · split at h <;> cases h
    · cases h
end Go.Proofs.YtdfkaijeppdhaaaGreatDoor

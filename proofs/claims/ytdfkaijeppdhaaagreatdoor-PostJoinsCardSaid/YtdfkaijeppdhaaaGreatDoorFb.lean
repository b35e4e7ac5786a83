/- Contracts of a post's methods: take, Join, Copy. -/
import Derived.Test.YtdfkaijeppdhaaaGreatDoorFa
namespace Go.Proofs.YtdfkaijeppdhaaaGreatDoor
open Go.RowKit Go.Shelf

/-- Join: the error, and the book. -/
def joinV (b o : Book) : Int × Book := match joinB b o with
  | some c => (0, c)
  | none => (102, b)
theorem joinV_ok {b o : Book} (hb : BookOk b) (ho : BookOk o) : BookOk (joinV b o).2 := by
  unfold joinV
  cases h : joinB b o with
  | none => exact hb
  | some c => exact joinB_ok hb ho h
/-- What a method hands back that may turn the book. -/
def TurnPost (P n : Nat) (F : List Nat) (r : Int × Book) (w : World) (e : Ending) (w' : World) : Prop :=
  e = .returned (.int .i64 r.1) ∧ ∃ F', PostAt w' P F' n r.2 ∧ NewOr w F F' ∧ Off F w w'
theorem fitL_self (l : List Ent) : fitL l l = true := by
  unfold fitL
  rw [Bool.or_eq_true, decide_eq_true_eq]
  exact .inl (List.prefix_refl _)
theorem joinB_some {b1 b2 c : Book} (h : joinB b1 b2 = some c) : c = joinL b1 b2 := by
  unfold joinB at h
  split at h
  · simp only [Option.some.injEq] at h
    exact h.symm
  · cases h
theorem joinB_self' {b : Book} : ∃ c, joinB b b = some c ∧ ∀ i, i < 4 → c i = b i :=
  ⟨joinL b b, joinB_of fun i _ => fitL_self (b i), fun i _ => longL_self (List.prefix_refl (b i))⟩
theorem NewBook.parts {w : World} {lo : Nat} {us : Nat → Value} {c : Book} (h : NewBook w lo us c) : ∃ a0 d0 a1 d1 a2 d2 a3 d3, us 0 = .slice a0 (c 0).length d0 ∧ us 1 = .slice a1 (c 1).length d1 ∧ us 2 = .slice a2 (c 2).length d2 ∧ us 3 = .slice a3 (c 3).length d3 := by
  obtain ⟨a0, d0, h0⟩ := own_shape (h.list 0 (by omega))
  obtain ⟨a1, d1, h1⟩ := own_shape (h.list 1 (by omega))
  obtain ⟨a2, d2, h2⟩ := own_shape (h.list 2 (by omega))
  obtain ⟨a3, d3, h3⟩ := own_shape (h.list 3 (by omega))
  exact ⟨a0, d0, a1, d1, a2, d2, a3, d3, h0, h1, h2, h3⟩
theorem set_four {X : World} {N : Nat} {a b c d : Value} {t : TypeId} (h : X.heap[N]? = some (.cells #[a, b, c, d] t (0, 0))) (v0 v1 v2 v3 : Value) :
    ((((X.setCell ⟨N, 0, none⟩ v0).setCell ⟨N, 1, none⟩ v1).setCell ⟨N, 2, none⟩ v2).setCell ⟨N, 3, none⟩ v3).heap[N]? = some (.cells #[v0, v1, v2, v3] t (0, 0)) := by
  have h0 := setCell_four h 0 v0
  simp at h0
  have h1 := setCell_four h0 1 v1
  simp at h1
  have h2 := setCell_four h1 2 v2
  simp at h2
  have h3 := setCell_four h2 3 v3
  simpa using h3
theorem four_other {X : World} {N : Nat} (v0 v1 v2 v3 : Value) {k : Nat} (hk : k ≠ N) :
    ((((X.setCell ⟨N, 0, none⟩ v0).setCell ⟨N, 1, none⟩ v1).setCell ⟨N, 2, none⟩ v2).setCell ⟨N, 3, none⟩ v3).heap[k]? = X.heap[k]? :=
  (Below.heap_setCell _ _ _ k hk).trans ((Below.heap_setCell _ _ _ k hk).trans ((Below.heap_setCell _ _ _ k hk).trans (Below.heap_setCell _ _ _ k hk)))
/-- A new book lies in a block of its own. -/
theorem NewBook.is {w : World} {lo N : Nat} {us : Nat → Value} {c : Book} (h : NewBook w lo us c) (hN : w.heap[N]? = some (.cells #[us 0, us 1, us 2, us 3] 96 (0, 0))) : BookIs w N us c :=
  ⟨hN, h.list, h.apart⟩
/-- The post turns to it. -/
theorem turn_end {w W : World} {P K n N lo : Nat} {F : List Nat} {vs us : Nat → Value} {c : Book} (hP : w.heap[P]? = some (.cells #[.pointer (some ⟨K, 0, none⟩), .int .i64 n] 81 (0, 0))) (hF : F = P :: K :: blks (vs 0) (vs 1) (vs 2) (vs 3))
    (hb : Below w.heap.size w W) (hB : BookIs W N us c) (hN : w.heap.size ≤ N) (hlo : w.heap.size ≤ lo) (hl : ∀ i, i < 4 → ∀ g, (us i).ownBlock = some g → lo ≤ g) :
    ∃ F', PostAt (W.setCell ⟨P, 0, none⟩ (.pointer (some ⟨N, 0, none⟩))) P F' n c ∧ NewOr w F F' ∧ Off F w (W.setCell ⟨P, 0, none⟩ (.pointer (some ⟨N, 0, none⟩))) := by
  have hPlt : P < w.heap.size := (Array.getElem?_eq_some_iff.1 hP).1
  have hPW := (hb.block P hPlt).trans hP
  have hset : ∀ k, k ≠ P → (W.setCell ⟨P, 0, none⟩ (.pointer (some ⟨N, 0, none⟩))).heap[k]? = W.heap[k]? := fun k hk => Below.heap_setCell _ _ _ k hk
  have hPx : (W.setCell ⟨P, 0, none⟩ (.pointer (some ⟨N, 0, none⟩))).heap[P]? = some (.cells #[.pointer (some ⟨N, 0, none⟩), .int .i64 n] 81 (0, 0)) := by
    obtain ⟨hlt, hk⟩ := Array.getElem?_eq_some_iff.1 hPW
    show (W.heap.modify P _)[P]? = _
    rw [Array.getElem?_eq_getElem (by rw [Array.size_modify]; exact hlt), Array.getElem_modify_self, hk]
    simp
  refine ⟨P :: N :: blks (us 0) (us 1) (us 2) (us 3), ⟨N, _, hPx, (hB.keep (hset N (by omega)) fun i hi k hk => hset k (by have := hl i hi k hk; omega)).at, rfl⟩, fun k hk => ?_, ⟨hb.os, hb.tape, hb.output, by rw [World.size_setCell]; exact hb.size, fun k hk hkF => ?_⟩⟩
  · rcases List.mem_cons.1 hk with rfl | hk
    · exact .inl (by rw [hF]; simp)
    · rcases List.mem_cons.1 hk with rfl | hk
      · exact .inr hN
      · obtain ⟨i, hi, h5⟩ := mem_blks.1 hk
        have := hl i hi k h5
        exact .inr (by omega)
  · exact (hset k (fun e => hkF (by rw [hF, e]; simp))).trans (hb.block k hk)
theorem below_four {n N : Nat} {w X : World} (hb : Below n w X) (hN : n ≤ N) (v0 v1 v2 v3 : Value) : Below n w ((((X.setCell ⟨N, 0, none⟩ v0).setCell ⟨N, 1, none⟩ v1).setCell ⟨N, 2, none⟩ v2).setCell ⟨N, 3, none⟩ v3) :=
  (((hb.setCell (p := ⟨N, 0, none⟩) hN _).setCell (p := ⟨N, 1, none⟩) hN _).setCell (p := ⟨N, 2, none⟩) hN _).setCell (p := ⟨N, 3, none⟩) hN _
theorem NewBook.keep {w w' : World} {lo : Nat} {us : Nat → Value} {c : Book} (h : NewBook w lo us c) (hk : ∀ i, i < 4 → ∀ g, (us i).ownBlock = some g → w'.heap[g]? = w.heap[g]?) : NewBook w' lo us c :=
  ⟨fun i hi => (h.list i hi).keep (hk i hi), h.low, h.apart⟩
/-- The cells of the new variable. -/
theorem var_cells {w2 : World} {N : Nat} {t : TypeId} (h : w2.heap[N]? = some (.cells #[.slice none 0 0, .slice none 0 0, .slice none 0 0, .slice none 0 0] t (0, 0))) : (∀ j, j < 4 → w2.cell? ⟨N, j, none⟩ = some (.slice none 0 0)) ∧ ∀ j, w2.frozen? ⟨N, j, none⟩ = false := by
  refine ⟨fun j hj => ?_, fun j => by simp [World.frozen?, h]⟩
  rcases (show j = 0 ∨ j = 1 ∨ j = 2 ∨ j = 3 by omega) with rfl | rfl | rfl | rfl <;> exact heap_cell h rfl
set_option maxRecDepth 100000 in
set_option maxHeartbeats 4000000 in
theorem take_any (P n : Nat) (F : List Nat) (b : Book) (K2 : Nat) (vs2 : Nat → Value) (b2 : Book) (w : World) (h : PostAt w P F n b) (h2 : BookIs w K2 vs2 b2) (hok : BookOk b) (hok2 : BookOk b2) :
    Calls Tryz.prog 52 #[.pointer (some ⟨P, 0, none⟩), .pointer (some ⟨K2, 0, none⟩)] w (TurnPost P n F (joinV b b2) w) := by
  have HP := Lib.hid h
  obtain ⟨K, vs, hP, hvs, hF⟩ := h.parts
  have HJ := Lib.hid (fun W (hW : KB w W) => joined_any K K2 vs vs2 b b2 W (hvs.below hW) (h2.below hW) (fun i hi => (hok i hi).len) (fun i hi => (hok2 i hi).len))
  have HPC := Lib.hid hP
  have HF := Lib.hid hF
  have r0 := heap_cell (j := 0) hP rfl
  clear h hvs h2 hok hok2 hF hP
  unfold joinV
  unfold JoinPost at HJ
  cases hj : joinB b b2 with
  | none =>
    rw [hj] at HJ
    simp only at HJ
    clear hj
    go_enter Tryz.func52, Tryz.ntmps52
    go_wp2_with fail
    refine (HJ.out _ (KB.refl _)).mono ?_
    rintro e w2 ⟨rfl, hb2⟩
    unfold aggV
    have HB2 := Lib.hid hb2
    clear hb2
    go_wp2
    go_ret
    have hb : Below w.heap.size w (w2.alloc (.cells #[.slice none 0 0, .slice none 0 0, .slice none 0 0, .slice none 0 0] 96)) := HB2.out.alloc HB2.out.size _
    exact ⟨rfl, F, HP.out.below hb, newOr_refl _ _, Off.of_below hb⟩
  | some c =>
    rw [hj] at HJ
    simp only at HJ
    clear hj
    go_enter Tryz.func52, Tryz.ntmps52
    go_wp2_with fail
    refine (HJ.out _ (KB.refl _)).mono ?_
    rintro e w2 ⟨⟨us, rfl, hnb⟩, hb2⟩
    obtain ⟨a0, d0, a1, d1, a2, d2, a3, d3, f0, f1, f2, f3⟩ := hnb.parts
    unfold aggV
    rw [f0, f1, f2, f3]
    have HU := Lib.hid (And.intro f0 (And.intro f1 (And.intro f2 f3)))
    have HB2 := Lib.hid hb2
    have HNB := Lib.hid hnb
    clear f0 f1 f2 f3 hb2 hnb
    obtain ⟨W, hW⟩ : ∃ W, W = w2.alloc (.cells #[.slice a0 (c 0).length d0, .slice a1 (c 1).length d1, .slice a2 (c 2).length d2, .slice a3 (c 3).length d3] 96) := ⟨_, rfl⟩
    have hb : Below w.heap.size w W := by rw [hW]; exact HB2.out.alloc HB2.out.size _
    have hNW : W.heap[w2.heap.size]? = some (.cells #[us 0, us 1, us 2, us 3] 96 (0, 0)) := by
      rw [hW, HU.out.1, HU.out.2.1, HU.out.2.2.1, HU.out.2.2.2]; exact World.alloc_heap_new w2 _
    have hBI : BookIs W w2.heap.size us c := NewBook.is (HNB.out.keep fun i hi g hg => by
      have hg2 := (HNB.out.list i hi).lt hg
      rw [hW]; exact Below.heap_alloc _ _ _ hg2) hNW
    have HE := Lib.hid (turn_end (us := us) HPC.out HF.out hb hBI HB2.out.size (Nat.le_refl _) HNB.out.low)
    have HPW := Lib.hid ((hb.block P (Array.getElem?_eq_some_iff.1 HPC.out).1).trans HPC.out)
    have y0 := heap_cell (j := 0) HPW.out rfl
    have yf : W.frozen? ⟨P, 0, none⟩ = false := by have h9 := HPW.out; simp [World.frozen?, h9]
    rw [hW] at y0 yf HE
    clear hW hb hNW hBI r0 HPW
    go_wp2
    go_ret
    exact ⟨rfl, HE.out⟩

set_option maxHeartbeats 1000000 in
theorem join_post (P n : Nat) (F : List Nat) (b : Book) (P2 n2 : Nat) (F2 : List Nat) (b2 : Book) (w : World) (h : PostAt w P F n b) (h2 : PostAt w P2 F2 n2 b2) (hok : BookOk b) (hok2 : BookOk b2) :
    Calls Tryz.prog 22 #[.pointer (some ⟨P, 0, none⟩), .pointer (some ⟨P2, 0, none⟩)] w (TurnPost P n F (joinV b b2) w) := by
  obtain ⟨K2, vs2, hP2, hvs2, hF2⟩ := h2.parts
  obtain ⟨K, vs, hP, hvs, hF⟩ := h.parts
  have HN := Lib.hid (none_any P K n _ w hP)
  have HN2 := Lib.hid (none_any P2 K2 n2 _ w hP2)
  have HT := Lib.hid (take_any P n F b K2 vs2 b2 w h hvs2 hok hok2)
  have p0 := heap_cell (j := 0) hP2 rfl
  clear h h2 hP hP2 hvs hvs2 hF hF2 hok hok2
  go_enter Tryz.func22, Tryz.ntmps22
  go_wp2_with fail
  refine HN.out.mono ?_
  rintro e w' ⟨rfl, rfl⟩
  go_wp2_with fail
  refine HN2.out.mono ?_
  rintro e w' ⟨rfl, rfl⟩
  go_wp2_with fail
  refine HT.out.mono ?_
  rintro e w' ⟨rfl, h⟩
  go_wp2
  go_ret
  exact ⟨rfl, h⟩
set_option maxHeartbeats 1000000 in
theorem join_none (v v2 : Value) (w : World) (h : NoPost w v) : Calls Tryz.prog 22 #[v, v2] w fun e w' => e = .returned (.int .i64 101) ∧ w = w' := by
  have HN := Lib.hid (none_no v w h)
  clear h
  go_enter Tryz.func22, Tryz.ntmps22
  go_wp2_with fail
  refine HN.out.mono ?_
  rintro e w' ⟨rfl, rfl⟩
  go_wp2
  go_ret
  exact ⟨rfl, rfl⟩
set_option maxHeartbeats 1000000 in
theorem join_none2 (P n : Nat) (F : List Nat) (b : Book) (v2 : Value) (w : World) (h : PostAt w P F n b) (h2 : NoPost w v2) : Calls Tryz.prog 22 #[.pointer (some ⟨P, 0, none⟩), v2] w fun e w' => e = .returned (.int .i64 101) ∧ w = w' := by
  obtain ⟨K, vs, hP, hvs, hF⟩ := h.parts
  have HN := Lib.hid (none_any P K n _ w hP)
  have HN2 := Lib.hid (none_no v2 w h2)
  clear h hP hvs hF h2
  go_enter Tryz.func22, Tryz.ntmps22
  go_wp2_with fail
  refine HN.out.mono ?_
  rintro e w' ⟨rfl, rfl⟩
  go_wp2_with fail
  refine HN2.out.mono ?_
  rintro e w' ⟨rfl, rfl⟩
  go_wp2
  go_ret
  exact ⟨rfl, rfl⟩
end Go.Proofs.YtdfkaijeppdhaaaGreatDoor

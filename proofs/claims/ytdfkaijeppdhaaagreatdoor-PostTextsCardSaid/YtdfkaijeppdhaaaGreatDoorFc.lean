/- Texts of this claim, laid together: Fa, Fb, Fc. -/
import Derived.Test.YtdfkaijeppdhaaaGreatDoorExc
import Derived.Test.YtdfkaijeppdhaaaGreatDoorExb
import Derived.Test.YtdfkaijeppdhaaaGreatDoorEz

/- Contracts of a post's methods: Do, Number, Count, Since, Book. -/
namespace Go.Proofs.YtdfkaijeppdhaaaGreatDoor
open Go.RowKit Go.Shelf

/-- Do of any line. -/
theorem do_any (P n : Nat) (hn : n < 4) (F : List Nat) (b : Book) (line : ByteArray) (hs : line.size ≤ 1000000) (w : World) (h : PostAt w P F n b) (hok : BookOk b) (hV : Vars w) (hfree : ∀ k ∈ F, ¬ isVar k) :
    Calls Tryz.prog 24 #[.pointer (some ⟨P, 0, none⟩), .string line] w (DoPost P n F (doB b n line) w) := by
  cases hc : parseB line with
  | none =>
    rw [show doB b n line = (emp, 100, b) by unfold doB; rw [hc]]
    exact do_no P n F b line hs w h hV (by rw [hc]; rfl)
  | some c =>
    by_cases hd : c.deed = false
    · rw [show doB b n line = (emp, 100, b) by unfold doB; rw [hc]; simp only; rw [if_pos hd]]
      exact do_no P n F b line hs w h hV (by rw [hc]; exact hd)
    · cases c with
      | put nm tx => exact do_put P n hn F b line hs w h hok hV hfree nm tx hc
      | add nm mm => exact do_add P n hn F b line hs w h hok hV hfree nm mm hc
      | drop nm =>
        cases htx : (saysB (allB b)).txt nm with
        | none => exact do_drop_none P n hn F b line hs w h hok hV hfree nm hc htx
        | some tx => exact do_drop P n hn F b line hs w h hok hV hfree nm tx hc htx
      | stock nm => exact absurd rfl hd
      | share m nms => exact absurd rfl hd
      | asked k nms ns => exact absurd rfl hd

/-- No post: nil, or one that no call has made. -/
def NoPost (w : World) (v : Value) : Prop := v = .pointer none ∨ ∃ P, v = .pointer (some ⟨P, 0, none⟩) ∧ w.heap[P]? = some (.cells #[.pointer none, .int .i64 0] 81 (0, 0))
theorem NoPost.below {w w' : World} {v : Value} (h : NoPost w v) (hb : Below w.heap.size w w') : NoPost w' v := by
  rcases h with h | ⟨P, h, hP⟩
  · exact .inl h
  · exact .inr ⟨P, h, (hb.block P (Array.getElem?_eq_some_iff.1 hP).1).trans hP⟩
set_option maxHeartbeats 400000 in
theorem none_no (v : Value) (w : World) (h : NoPost w v) : Calls Tryz.prog 51 #[v] w fun e w' => e = .returned (.bool true) ∧ w = w' := by
  rcases h with rfl | ⟨P, rfl, hP⟩
  · exact none_nil w
  · have c0 : w.cell? ⟨P, 0, none⟩ = some (.pointer none) := heap_cell hP rfl
    clear hP
    go_enter Tryz.func51, Tryz.ntmps51
    go_wp2
    go_ret
    exact ⟨rfl, rfl⟩
theorem PostAt.parts {w : World} {P n : Nat} {F : List Nat} {b : Book} (h : PostAt w P F n b) : ∃ K vs, w.heap[P]? = some (.cells #[.pointer (some ⟨K, 0, none⟩), .int .i64 n] 81 (0, 0)) ∧ BookIs w K vs b ∧ F = P :: K :: blks (vs 0) (vs 1) (vs 2) (vs 3) := by
  obtain ⟨K, G, hP, hB, hF⟩ := h
  obtain ⟨vs, hvs, rfl⟩ := bookIs_of hB
  exact ⟨K, vs, hP, hvs, hF⟩
set_option maxHeartbeats 400000 in
theorem number_post (P n : Nat) (F : List Nat) (b : Book) (w : World) (h : PostAt w P F n b) : Calls Tryz.prog 38 #[.pointer (some ⟨P, 0, none⟩)] w fun e w' => e = .returned (.int .i64 n) ∧ w = w' := by
  obtain ⟨K, vs, hP, hvs, hF⟩ := h.parts
  have HN := Lib.hid (none_any P K n _ w hP)
  have p0 := heap_cell (j := 0) hP rfl
  have p1 := heap_cell (j := 1) hP rfl
  have HPC := Lib.hid hP
  clear hP
  clear hvs hF h
  go_enter Tryz.func38, Tryz.ntmps38
  go_wp2_with fail
  refine HN.out.mono ?_
  rintro e w' ⟨rfl, rfl⟩
  go_wp2
  go_ret
  exact ⟨rfl, rfl⟩
set_option maxHeartbeats 400000 in
theorem number_none (v : Value) (w : World) (h : NoPost w v) : Calls Tryz.prog 38 #[v] w fun e w' => e = .returned (.int .i64 (-1)) ∧ w = w' := by
  have HN := Lib.hid (none_no v w h)
  clear h
  go_enter Tryz.func38, Tryz.ntmps38
  go_wp2_with fail
  refine HN.out.mono ?_
  rintro e w' ⟨rfl, rfl⟩
  go_wp2
  go_ret
  exact ⟨rfl, rfl⟩
set_option maxHeartbeats 400000 in
theorem count_post (P n : Nat) (F : List Nat) (b : Book) (w : World) (h : PostAt w P F n b) (hok : BookOk b) : Calls Tryz.prog 23 #[.pointer (some ⟨P, 0, none⟩)] w fun e w' => e = .returned (.int .i64 (cntB b)) ∧ w = w' := by
  obtain ⟨K, vs, hP, hvs, hF⟩ := h.parts
  have HN := Lib.hid (none_any P K n _ w hP)
  have p0 := heap_cell (j := 0) hP rfl
  have p1 := heap_cell (j := 1) hP rfl
  have HPC := Lib.hid hP
  clear hP
  have HC := Lib.hid (count_any K _ b w hvs.at (fun i hi => (hok i hi).len))
  clear hvs hF h hok
  go_enter Tryz.func23, Tryz.ntmps23
  go_wp2_with fail
  refine HN.out.mono ?_
  rintro e w' ⟨rfl, rfl⟩
  go_wp2_with fail
  refine HC.out.mono ?_
  rintro e w' ⟨rfl, rfl⟩
  go_wp2
  go_ret
  exact ⟨rfl, rfl⟩
set_option maxHeartbeats 400000 in
theorem count_none (v : Value) (w : World) (h : NoPost w v) : Calls Tryz.prog 23 #[v] w fun e w' => e = .returned (.int .i64 0) ∧ w = w' := by
  have HN := Lib.hid (none_no v w h)
  clear h
  go_enter Tryz.func23, Tryz.ntmps23
  go_wp2_with fail
  refine HN.out.mono ?_
  rintro e w' ⟨rfl, rfl⟩
  go_wp2
  go_ret
  exact ⟨rfl, rfl⟩
set_option maxHeartbeats 1000000 in
theorem since_post (P n : Nat) (F : List Nat) (b : Book) (s0 s1 s2 s3 : Int) (seen : Nat → Int) (hs : seen 0 = s0 ∧ seen 1 = s1 ∧ seen 2 = s2 ∧ seen 3 = s3) (w : World) (h : PostAt w P F n b) (hok : BookOk b) :
    Calls Tryz.prog 32 #[.pointer (some ⟨P, 0, none⟩), .agg #[.int .i64 s0, .int .i64 s1, .int .i64 s2, .int .i64 s3]] w (SincePost (sinceB b seen) w) := by
  obtain ⟨K, vs, hP, hvs, hF⟩ := h.parts
  have HN := Lib.hid (none_any P K n _ w hP)
  have p0 := heap_cell (j := 0) hP rfl
  have p1 := heap_cell (j := 1) hP rfl
  have HPC := Lib.hid hP
  clear hP
  obtain ⟨o3, ho3⟩ : ∃ o3 : Obj, o3 = .cells #[.int .i64 s0, .int .i64 s1, .int .i64 s2, .int .i64 s3] 34 := ⟨_, rfl⟩
  have hb3 : Below w.heap.size w (w.alloc o3) := (Below.refl _ _).alloc (Nat.le_refl _) _
  have HN3 := Lib.hid (none_any P K n _ (w.alloc o3) ((hb3.block P (h.lt (by rw [hF]; simp))).trans HPC.out))
  have HC := Lib.hid (fun W (hW : Below w.heap.size w W) => since_any K _ b s0 s1 s2 s3 seen hs W (hvs.below hW).at (fun i hi => (hok i hi).len) hok)
  have HB3 := Lib.hid hb3
  have q0 := keep_cell hb3 p0
  have z0 := heap_cell (j := 0) (show (w.alloc o3).heap[w.heap.size]? = some (.cells #[.int .i64 s0, .int .i64 s1, .int .i64 s2, .int .i64 s3] 34 (0, 0)) by rw [World.alloc_heap_new, ho3]) rfl
  have z1 := heap_cell (j := 1) (show (w.alloc o3).heap[w.heap.size]? = some (.cells #[.int .i64 s0, .int .i64 s1, .int .i64 s2, .int .i64 s3] 34 (0, 0)) by rw [World.alloc_heap_new, ho3]) rfl
  have z2 := heap_cell (j := 2) (show (w.alloc o3).heap[w.heap.size]? = some (.cells #[.int .i64 s0, .int .i64 s1, .int .i64 s2, .int .i64 s3] 34 (0, 0)) by rw [World.alloc_heap_new, ho3]) rfl
  have z3 := heap_cell (j := 3) (show (w.alloc o3).heap[w.heap.size]? = some (.cells #[.int .i64 s0, .int .i64 s1, .int .i64 s2, .int .i64 s3] 34 (0, 0)) by rw [World.alloc_heap_new, ho3]) rfl
  have HO3 := Lib.hid ho3
  clear hvs hF h hok hs hb3 ho3
  go_enter Tryz.func32, Tryz.ntmps32
  go_wp2_with fail
  rw [← HO3.out]
  refine HN3.out.mono ?_
  rintro e w' ⟨rfl, rfl⟩
  go_wp2
  go_region_with (go_at_call 63; refine (HC.out _ (belowD HB3.out _)).mono ?_; rintro e w2 ⟨v, rfl, h1, h2, h3⟩; have HX := Lib.hid (And.intro h1 (And.intro h2 h3)); clear h1 h2 h3)
  all_goals go_wp2
  all_goals go_ret
  all_goals exact ⟨v, rfl, HX.out.1, fun k hk => by have := HX.out.2.1 k hk; have := HB3.out.size; simp at *; omega, (belowD HB3.out _).trans (HX.out.2.2.mono (by have := HB3.out.size; simp at *))⟩
theorem listAt_none (w : World) : ListAt w (.slice none 0 0) [] := listAt_nil w
set_option maxHeartbeats 400000 in
theorem since_none (v : Value) (s0 s1 s2 s3 : Int) (w : World) (h : NoPost w v) : Calls Tryz.prog 32 #[v, .agg #[.int .i64 s0, .int .i64 s1, .int .i64 s2, .int .i64 s3]] w (SincePost [] w) := by
  have HN := Lib.hid (fun o => none_no v (w.alloc o) (h.below ((Below.refl _ _).alloc (Nat.le_refl _) o)))
  clear h
  go_enter Tryz.func32, Tryz.ntmps32
  go_wp2_with fail
  refine (HN.out _).mono ?_
  rintro e w' ⟨rfl, rfl⟩
  go_wp2
  go_ret
  exact ⟨_, rfl, listAt_nil _, by simp [Value.ownBlock], (Below.refl _ _).alloc (Nat.le_refl _) _⟩
theorem allB_since (b : Book) : allB b = sinceB b fun _ => 0 := rfl
set_option maxHeartbeats 400000 in
theorem book_post (P n : Nat) (F : List Nat) (b : Book) (w : World) (h : PostAt w P F n b) (hok : BookOk b) :
    Calls Tryz.prog 25 #[.pointer (some ⟨P, 0, none⟩)] w (SincePost (allB b) w) := by
  have HS := Lib.hid (since_post P n F b 0 0 0 0 (fun _ => 0) ⟨rfl, rfl, rfl, rfl⟩ w h hok)
  rw [allB_since]
  clear h hok
  go_enter Tryz.func25, Tryz.ntmps25
  go_wp2_with fail
  refine HS.out.mono ?_
  rintro e w' ⟨v, rfl, h1, h2, h3⟩
  go_wp2
  go_ret
  exact ⟨v, rfl, h1, h2, h3⟩
set_option maxHeartbeats 400000 in
theorem book_none (v : Value) (w : World) (h : NoPost w v) :
    Calls Tryz.prog 25 #[v] w (SincePost [] w) := by
  have HS := Lib.hid (since_none v 0 0 0 0 w h)
  clear h
  go_enter Tryz.func25, Tryz.ntmps25
  go_wp2_with fail
  refine HS.out.mono ?_
  rintro e w' ⟨v, rfl, h1, h2, h3⟩
  go_wp2
  go_ret
  exact ⟨v, rfl, h1, h2, h3⟩
end Go.Proofs.YtdfkaijeppdhaaaGreatDoor

/- Contracts of a post's methods: take, Join, Copy. -/
namespace Go.Proofs.YtdfkaijeppdhaaaGreatDoor
open Go.RowKit Go.Shelf

/-- Join: the error, and the book. -/
def joinV (b o : Book) : Int × Book := match joinB b o with
  | some c => (0, c)
  | none => (102, b)
theorem joinV_ok {b o : Book} (hb : BookOk b) (ho : BookOk o) : BookOk (joinV b o).2 := by
  unfold joinV
  cases h : joinB b o with
  | none => exact hb
  | some c => exact joinB_ok hb ho h
/-- What a method hands back that may turn the book. -/
def TurnPost (P n : Nat) (F : List Nat) (r : Int × Book) (w : World) (e : Ending) (w' : World) : Prop :=
  e = .returned (.int .i64 r.1) ∧ ∃ F', PostAt w' P F' n r.2 ∧ NewOr w F F' ∧ Off F w w'
theorem fitL_self (l : List Ent) : fitL l l = true := by
  unfold fitL
  rw [Bool.or_eq_true, decide_eq_true_eq]
  exact .inl (List.prefix_refl _)
theorem joinB_some {b1 b2 c : Book} (h : joinB b1 b2 = some c) : c = joinL b1 b2 := by
  unfold joinB at h
  split at h
  · simp only [Option.some.injEq] at h
    exact h.symm
  · cases h
theorem joinB_self' {b : Book} : ∃ c, joinB b b = some c ∧ ∀ i, i < 4 → c i = b i :=
  ⟨joinL b b, joinB_of fun i _ => fitL_self (b i), fun i _ => longL_self (List.prefix_refl (b i))⟩
theorem NewBook.parts {w : World} {lo : Nat} {us : Nat → Value} {c : Book} (h : NewBook w lo us c) : ∃ a0 d0 a1 d1 a2 d2 a3 d3, us 0 = .slice a0 (c 0).length d0 ∧ us 1 = .slice a1 (c 1).length d1 ∧ us 2 = .slice a2 (c 2).length d2 ∧ us 3 = .slice a3 (c 3).length d3 := by
  obtain ⟨a0, d0, h0⟩ := own_shape (h.list 0 (by omega))
  obtain ⟨a1, d1, h1⟩ := own_shape (h.list 1 (by omega))
  obtain ⟨a2, d2, h2⟩ := own_shape (h.list 2 (by omega))
  obtain ⟨a3, d3, h3⟩ := own_shape (h.list 3 (by omega))
  exact ⟨a0, d0, a1, d1, a2, d2, a3, d3, h0, h1, h2, h3⟩
theorem set_four {X : World} {N : Nat} {a b c d : Value} {t : TypeId} (h : X.heap[N]? = some (.cells #[a, b, c, d] t (0, 0))) (v0 v1 v2 v3 : Value) :
    ((((X.setCell ⟨N, 0, none⟩ v0).setCell ⟨N, 1, none⟩ v1).setCell ⟨N, 2, none⟩ v2).setCell ⟨N, 3, none⟩ v3).heap[N]? = some (.cells #[v0, v1, v2, v3] t (0, 0)) := by
  have h0 := setCell_four h 0 v0
  simp at h0
  have h1 := setCell_four h0 1 v1
  simp at h1
  have h2 := setCell_four h1 2 v2
  simp at h2
  have h3 := setCell_four h2 3 v3
  simpa using h3
theorem four_other {X : World} {N : Nat} (v0 v1 v2 v3 : Value) {k : Nat} (hk : k ≠ N) :
    ((((X.setCell ⟨N, 0, none⟩ v0).setCell ⟨N, 1, none⟩ v1).setCell ⟨N, 2, none⟩ v2).setCell ⟨N, 3, none⟩ v3).heap[k]? = X.heap[k]? :=
  (Below.heap_setCell _ _ _ k hk).trans ((Below.heap_setCell _ _ _ k hk).trans ((Below.heap_setCell _ _ _ k hk).trans (Below.heap_setCell _ _ _ k hk)))
/-- A new book lies in a block of its own. -/
theorem NewBook.is {w : World} {lo N : Nat} {us : Nat → Value} {c : Book} (h : NewBook w lo us c) (hN : w.heap[N]? = some (.cells #[us 0, us 1, us 2, us 3] 96 (0, 0))) : BookIs w N us c :=
  ⟨hN, h.list, h.apart⟩
/-- The post turns to it. -/
theorem turn_end {w W : World} {P K n N lo : Nat} {F : List Nat} {vs us : Nat → Value} {c : Book} (hP : w.heap[P]? = some (.cells #[.pointer (some ⟨K, 0, none⟩), .int .i64 n] 81 (0, 0))) (hF : F = P :: K :: blks (vs 0) (vs 1) (vs 2) (vs 3))
    (hb : Below w.heap.size w W) (hB : BookIs W N us c) (hN : w.heap.size ≤ N) (hlo : w.heap.size ≤ lo) (hl : ∀ i, i < 4 → ∀ g, (us i).ownBlock = some g → lo ≤ g) :
    ∃ F', PostAt (W.setCell ⟨P, 0, none⟩ (.pointer (some ⟨N, 0, none⟩))) P F' n c ∧ NewOr w F F' ∧ Off F w (W.setCell ⟨P, 0, none⟩ (.pointer (some ⟨N, 0, none⟩))) := by
  have hPlt : P < w.heap.size := (Array.getElem?_eq_some_iff.1 hP).1
  have hPW := (hb.block P hPlt).trans hP
  have hset : ∀ k, k ≠ P → (W.setCell ⟨P, 0, none⟩ (.pointer (some ⟨N, 0, none⟩))).heap[k]? = W.heap[k]? := fun k hk => Below.heap_setCell _ _ _ k hk
  have hPx : (W.setCell ⟨P, 0, none⟩ (.pointer (some ⟨N, 0, none⟩))).heap[P]? = some (.cells #[.pointer (some ⟨N, 0, none⟩), .int .i64 n] 81 (0, 0)) := by
    obtain ⟨hlt, hk⟩ := Array.getElem?_eq_some_iff.1 hPW
    show (W.heap.modify P _)[P]? = _
    rw [Array.getElem?_eq_getElem (by rw [Array.size_modify]; exact hlt), Array.getElem_modify_self, hk]
    simp
  refine ⟨P :: N :: blks (us 0) (us 1) (us 2) (us 3), ⟨N, _, hPx, (hB.keep (hset N (by omega)) fun i hi k hk => hset k (by have := hl i hi k hk; omega)).at, rfl⟩, fun k hk => ?_, ⟨hb.os, hb.tape, hb.output, by rw [World.size_setCell]; exact hb.size, fun k hk hkF => ?_⟩⟩
  · rcases List.mem_cons.1 hk with rfl | hk
    · exact .inl (by rw [hF]; simp)
    · rcases List.mem_cons.1 hk with rfl | hk
      · exact .inr hN
      · obtain ⟨i, hi, h5⟩ := mem_blks.1 hk
        have := hl i hi k h5
        exact .inr (by omega)
  · exact (hset k (fun e => hkF (by rw [hF, e]; simp))).trans (hb.block k hk)
theorem below_four {n N : Nat} {w X : World} (hb : Below n w X) (hN : n ≤ N) (v0 v1 v2 v3 : Value) : Below n w ((((X.setCell ⟨N, 0, none⟩ v0).setCell ⟨N, 1, none⟩ v1).setCell ⟨N, 2, none⟩ v2).setCell ⟨N, 3, none⟩ v3) :=
  (((hb.setCell (p := ⟨N, 0, none⟩) hN _).setCell (p := ⟨N, 1, none⟩) hN _).setCell (p := ⟨N, 2, none⟩) hN _).setCell (p := ⟨N, 3, none⟩) hN _
theorem NewBook.keep {w w' : World} {lo : Nat} {us : Nat → Value} {c : Book} (h : NewBook w lo us c) (hk : ∀ i, i < 4 → ∀ g, (us i).ownBlock = some g → w'.heap[g]? = w.heap[g]?) : NewBook w' lo us c :=
  ⟨fun i hi => (h.list i hi).keep (hk i hi), h.low, h.apart⟩
/-- The cells of the new variable. -/
theorem var_cells {w2 : World} {N : Nat} {t : TypeId} (h : w2.heap[N]? = some (.cells #[.slice none 0 0, .slice none 0 0, .slice none 0 0, .slice none 0 0] t (0, 0))) : (∀ j, j < 4 → w2.cell? ⟨N, j, none⟩ = some (.slice none 0 0)) ∧ ∀ j, w2.frozen? ⟨N, j, none⟩ = false := by
  refine ⟨fun j hj => ?_, fun j => by simp [World.frozen?, h]⟩
  rcases (show j = 0 ∨ j = 1 ∨ j = 2 ∨ j = 3 by omega) with rfl | rfl | rfl | rfl <;> exact heap_cell h rfl
set_option maxRecDepth 100000 in
set_option maxHeartbeats 4000000 in
theorem take_any (P n : Nat) (F : List Nat) (b : Book) (K2 : Nat) (vs2 : Nat → Value) (b2 : Book) (w : World) (h : PostAt w P F n b) (h2 : BookIs w K2 vs2 b2) (hok : BookOk b) (hok2 : BookOk b2) :
    Calls Tryz.prog 52 #[.pointer (some ⟨P, 0, none⟩), .pointer (some ⟨K2, 0, none⟩)] w (TurnPost P n F (joinV b b2) w) := by
  have HP := Lib.hid h
  obtain ⟨K, vs, hP, hvs, hF⟩ := h.parts
  have HJ := Lib.hid (fun W (hW : KB w W) => joined_any K K2 vs vs2 b b2 W (hvs.below hW) (h2.below hW) (fun i hi => (hok i hi).len) (fun i hi => (hok2 i hi).len))
  have HPC := Lib.hid hP
  have HF := Lib.hid hF
  have r0 := heap_cell (j := 0) hP rfl
  clear h hvs h2 hok hok2 hF hP
  unfold joinV
  unfold JoinPost at HJ
  cases hj : joinB b b2 with
  | none =>
    rw [hj] at HJ
    simp only at HJ
    clear hj
    go_enter Tryz.func52, Tryz.ntmps52
    go_wp2_with fail
    refine (HJ.out _ (KB.refl _)).mono ?_
    rintro e w2 ⟨rfl, hb2⟩
    unfold aggV
    have HB2 := Lib.hid hb2
    clear hb2
    go_wp2
    go_ret
    have hb : Below w.heap.size w (w2.alloc (.cells #[.slice none 0 0, .slice none 0 0, .slice none 0 0, .slice none 0 0] 96)) := HB2.out.alloc HB2.out.size _
    exact ⟨rfl, F, HP.out.below hb, newOr_refl _ _, Off.of_below hb⟩
  | some c =>
    rw [hj] at HJ
    simp only at HJ
    clear hj
    go_enter Tryz.func52, Tryz.ntmps52
    go_wp2_with fail
    refine (HJ.out _ (KB.refl _)).mono ?_
    rintro e w2 ⟨⟨us, rfl, hnb⟩, hb2⟩
    obtain ⟨a0, d0, a1, d1, a2, d2, a3, d3, f0, f1, f2, f3⟩ := hnb.parts
    unfold aggV
    rw [f0, f1, f2, f3]
    have HU := Lib.hid (And.intro f0 (And.intro f1 (And.intro f2 f3)))
    have HB2 := Lib.hid hb2
    have HNB := Lib.hid hnb
    clear f0 f1 f2 f3 hb2 hnb
    obtain ⟨W, hW⟩ : ∃ W, W = w2.alloc (.cells #[.slice a0 (c 0).length d0, .slice a1 (c 1).length d1, .slice a2 (c 2).length d2, .slice a3 (c 3).length d3] 96) := ⟨_, rfl⟩
    have hb : Below w.heap.size w W := by rw [hW]; exact HB2.out.alloc HB2.out.size _
    have hNW : W.heap[w2.heap.size]? = some (.cells #[us 0, us 1, us 2, us 3] 96 (0, 0)) := by
      rw [hW, HU.out.1, HU.out.2.1, HU.out.2.2.1, HU.out.2.2.2]; exact World.alloc_heap_new w2 _
    have hBI : BookIs W w2.heap.size us c := NewBook.is (HNB.out.keep fun i hi g hg => by
      have hg2 := (HNB.out.list i hi).lt hg
      rw [hW]; exact Below.heap_alloc _ _ _ hg2) hNW
    have HE := Lib.hid (turn_end (us := us) HPC.out HF.out hb hBI HB2.out.size (Nat.le_refl _) HNB.out.low)
    have HPW := Lib.hid ((hb.block P (Array.getElem?_eq_some_iff.1 HPC.out).1).trans HPC.out)
    have y0 := heap_cell (j := 0) HPW.out rfl
    have yf : W.frozen? ⟨P, 0, none⟩ = false := by have h9 := HPW.out; simp [World.frozen?, h9]
    rw [hW] at y0 yf HE
    clear hW hb hNW hBI r0 HPW
    go_wp2
    go_ret
    exact ⟨rfl, HE.out⟩

set_option maxHeartbeats 1000000 in
theorem join_post (P n : Nat) (F : List Nat) (b : Book) (P2 n2 : Nat) (F2 : List Nat) (b2 : Book) (w : World) (h : PostAt w P F n b) (h2 : PostAt w P2 F2 n2 b2) (hok : BookOk b) (hok2 : BookOk b2) :
    Calls Tryz.prog 22 #[.pointer (some ⟨P, 0, none⟩), .pointer (some ⟨P2, 0, none⟩)] w (TurnPost P n F (joinV b b2) w) := by
  obtain ⟨K2, vs2, hP2, hvs2, hF2⟩ := h2.parts
  obtain ⟨K, vs, hP, hvs, hF⟩ := h.parts
  have HN := Lib.hid (none_any P K n _ w hP)
  have HN2 := Lib.hid (none_any P2 K2 n2 _ w hP2)
  have HT := Lib.hid (take_any P n F b K2 vs2 b2 w h hvs2 hok hok2)
  have p0 := heap_cell (j := 0) hP2 rfl
  clear h h2 hP hP2 hvs hvs2 hF hF2 hok hok2
  go_enter Tryz.func22, Tryz.ntmps22
  go_wp2_with fail
  refine HN.out.mono ?_
  rintro e w' ⟨rfl, rfl⟩
  go_wp2_with fail
  refine HN2.out.mono ?_
  rintro e w' ⟨rfl, rfl⟩
  go_wp2_with fail
  refine HT.out.mono ?_
  rintro e w' ⟨rfl, h⟩
  go_wp2
  go_ret
  exact ⟨rfl, h⟩
set_option maxHeartbeats 1000000 in
theorem join_none (v v2 : Value) (w : World) (h : NoPost w v) : Calls Tryz.prog 22 #[v, v2] w fun e w' => e = .returned (.int .i64 101) ∧ w = w' := by
  have HN := Lib.hid (none_no v w h)
  clear h
  go_enter Tryz.func22, Tryz.ntmps22
  go_wp2_with fail
  refine HN.out.mono ?_
  rintro e w' ⟨rfl, rfl⟩
  go_wp2
  go_ret
  exact ⟨rfl, rfl⟩
set_option maxHeartbeats 1000000 in
theorem join_none2 (P n : Nat) (F : List Nat) (b : Book) (v2 : Value) (w : World) (h : PostAt w P F n b) (h2 : NoPost w v2) : Calls Tryz.prog 22 #[.pointer (some ⟨P, 0, none⟩), v2] w fun e w' => e = .returned (.int .i64 101) ∧ w = w' := by
  obtain ⟨K, vs, hP, hvs, hF⟩ := h.parts
  have HN := Lib.hid (none_any P K n _ w hP)
  have HN2 := Lib.hid (none_no v2 w h2)
  clear h hP hvs hF h2
  go_enter Tryz.func22, Tryz.ntmps22
  go_wp2_with fail
  refine HN.out.mono ?_
  rintro e w' ⟨rfl, rfl⟩
  go_wp2_with fail
  refine HN2.out.mono ?_
  rintro e w' ⟨rfl, rfl⟩
  go_wp2
  go_ret
  exact ⟨rfl, rfl⟩
end Go.Proofs.YtdfkaijeppdhaaaGreatDoor

/- Contracts of a post's methods: Copy, Seen. -/
namespace Go.Proofs.YtdfkaijeppdhaaaGreatDoor
open Go.RowKit Go.Shelf

/-- A copy: on new blocks. -/
def CopyPost (n : Nat) (b : Book) (w : World) (e : Ending) (w' : World) : Prop :=
  ∃ P' F', e = .returned (.pointer (some ⟨P', 0, none⟩)) ∧ PostAt w' P' F' n b ∧ NewOr w [] F' ∧ Below w.heap.size w w'
theorem ListAt.same {w : World} {v : Value} {l m : List Ent} (h : ListAt w v l) (e : l = m) : ListAt w v m := e ▸ h
theorem BookIs.same {w : World} {K : Nat} {vs : Nat → Value} {b c : Book} (h : BookIs w K vs b) (e : ∀ i, i < 4 → b i = c i) : BookIs w K vs c := ⟨h.cells, fun i hi => (h.list i hi).same (e i hi), h.apart⟩
theorem copy_end {w W : World} {n N lo : Nat} {us : Nat → Value} {c b : Book} (hb : Below w.heap.size w W) (hB : BookIs W N us c) (hcb : ∀ i, i < 4 → c i = b i) (hN : w.heap.size ≤ N) (hlo : w.heap.size ≤ lo) (hl : ∀ i, i < 4 → ∀ g, (us i).ownBlock = some g → lo ≤ g) :
    CopyPost n b w (.returned (.pointer (some ⟨W.heap.size, 0, none⟩))) (W.alloc (.cells #[.pointer (some ⟨N, 0, none⟩), .int .i64 n] 81)) := by
  have hsz := hb.size
  refine ⟨W.heap.size, W.heap.size :: N :: blks (us 0) (us 1) (us 2) (us 3), rfl, ⟨N, _, World.alloc_heap_new W _, ((hB.below ((Below.refl _ _).alloc (Nat.le_refl _) _)).same hcb).at, rfl⟩, fun k hk => .inr ?_, hb.alloc hsz _⟩
  rcases List.mem_cons.1 hk with rfl | hk
  · exact hsz
  · rcases List.mem_cons.1 hk with rfl | hk
    · exact hN
    · obtain ⟨i, hi, h5⟩ := mem_blks.1 hk
      have := hl i hi k h5
      omega
set_option maxRecDepth 100000 in
set_option maxHeartbeats 4000000 in
theorem copy_post (P n : Nat) (F : List Nat) (b : Book) (w : World) (h : PostAt w P F n b) (hok : BookOk b) :
    Calls Tryz.prog 35 #[.pointer (some ⟨P, 0, none⟩)] w (CopyPost n b w) := by
  obtain ⟨K, vs, hP, hvs, hF⟩ := h.parts
  have HN := Lib.hid (none_any P K n _ w hP)
  have HJ := Lib.hid (fun W (hW : KB w W) => joined_any K K vs vs b b W (hvs.below hW) (hvs.below hW) (fun i hi => (hok i hi).len) (fun i hi => (hok i hi).len))
  have HPC := Lib.hid hP
  have r0 : ∀ W, KB w W → W.cell? ⟨P, 0, none⟩ = some (.pointer (some ⟨K, 0, none⟩)) := fun W hW => keep_cell hW (heap_cell hP rfl)
  have r1 : ∀ W, KB w W → W.cell? ⟨P, 1, none⟩ = some (.int .i64 (n : Int)) := fun W hW => keep_cell hW (heap_cell hP rfl)
  clear h hvs hok hF hP
  unfold JoinPost at HJ
  obtain ⟨c, hj, hcb⟩ := joinB_self' (b := b)
  rw [hj] at HJ
  simp only at HJ
  have HCB := Lib.hid hcb
  clear hj hcb
  go_enter Tryz.func35, Tryz.ntmps35
  go_wp2_with fail
  refine HN.out.mono ?_
  rintro e w' ⟨rfl, rfl⟩
  go_wp2
  go_region_held3 (fun W => KB w W) (first | exact KB.refl _ | exact KB.drew (KB.refl _) | assumption | exact KB.drew (by assumption) | (unfold KB at *; repeat (first | assumption | exact Below.refl _ _ | refine Below.setCell ?_ (by first | omega | (simp; done) | (simp; omega)) _ | refine Below.drew ?_ | refine Below.alloc ?_ (by first | omega | (simp; done) | (simp; omega)) _)) | fail) (first
    | (go_at_call 65; refine (HJ.out _ (by first | exact KB.refl _ | exact KB.drew (KB.refl _) | assumption | (unfold KB; exact (Below.refl _ _).alloc (Nat.le_refl _) _) | (unfold KB; exact ((Below.refl _ _).alloc (Nat.le_refl _) _).drew))).mono ?_; rintro e w2 ⟨⟨us, rfl, hnb⟩, hb2⟩; obtain ⟨a0, d0, a1, d1, a2, d2, a3, d3, f0, f1, f2, f3⟩ := hnb.parts; unfold aggV; rw [f0, f1, f2, f3]; have HU := Lib.hid (And.intro f0 (And.intro f1 (And.intro f2 f3))); clear f0 f1 f2 f3; have hk2 := KB.call (w := w) (by first | exact KB.refl _ | exact KB.drew (KB.refl _) | assumption | (unfold KB; exact (Below.refl _ _).alloc (Nat.le_refl _) _) | (unfold KB; exact ((Below.refl _ _).alloc (Nat.le_refl _) _).drew)) hb2; have hsz2 : w.heap.size ≤ w2.heap.size := hk2.size; first | (have hqq := (hb2.block w.heap.size (by simp)).trans (World.alloc_heap_new w (.cells #[.slice none 0 0, .slice none 0 0, .slice none 0 0, .slice none 0 0] 96)); have hq := var_cells hqq; have q0 := hq.1 0 (by omega); have q1 := hq.1 1 (by omega); have q2 := hq.1 2 (by omega); have q3 := hq.1 3 (by omega); have qf := hq.2) | skip)
    | fail)
  · have hbW : KB w (w2.alloc (.cells #[.slice a0 (c 0).length d0, .slice a1 (c 1).length d1, .slice a2 (c 2).length d2, .slice a3 (c 3).length d3] 96)) := KB.alloc hk2 _
    have y1 := r1 _ hbW
    have HE := Lib.hid (copy_end (n := n) (us := us) hbW (NewBook.is (c := c) (hnb.keep fun i hi g hg => Below.heap_alloc _ _ _ ((hnb.list i hi).lt hg)) (by rw [HU.out.1, HU.out.2.1, HU.out.2.2.1, HU.out.2.2.2]; exact World.alloc_heap_new w2 _)) HCB.out hsz2 (Nat.le_refl _) hnb.low)
    rw [World.size_alloc] at HE
    clear hbW hnb r0 r1
    go_wp2
    go_ret
    exact HE.out
  · have hbW : KB w ((((w2.setCell ⟨w.heap.size, 0, none⟩ (.slice a0 (c 0).length d0)).setCell ⟨w.heap.size, 1, none⟩ (.slice a1 (c 1).length d1)).setCell ⟨w.heap.size, 2, none⟩ (.slice a2 (c 2).length d2)).setCell ⟨w.heap.size, 3, none⟩ (.slice a3 (c 3).length d3)) := below_four hk2 (Nat.le_refl _) _ _ _ _
    have y1 := r1 _ hbW
    have HE := Lib.hid (copy_end (n := n) (us := us) hbW (NewBook.is (c := c) (hnb.keep fun i hi g hg => four_other _ _ _ _ (by have := hnb.low i hi g hg; simp at this; omega)) (by rw [HU.out.1, HU.out.2.1, HU.out.2.2.1, HU.out.2.2.2]; exact set_four hqq _ _ _ _)) HCB.out (Nat.le_refl _) (Nat.le_refl _) (fun i hi g hg => by have := hnb.low i hi g hg; simp at this; omega))
    rw [World.size_setCell, World.size_setCell, World.size_setCell, World.size_setCell] at HE
    clear hbW hnb r0 r1 hqq hq q0 q1 q2 q3 qf
    go_wp2
    go_ret
    exact HE.out

/-! ### Seen -/
def SeenPost (b : Book) (w : World) (e : Ending) (w' : World) : Prop :=
  e = .returned (.agg #[.int .i64 ((b 0).length : Int), .int .i64 ((b 1).length : Int), .int .i64 ((b 2).length : Int), .int .i64 ((b 3).length : Int)]) ∧ Below w.heap.size w w'
def seenTo (b : Book) (k j : Nat) : Value := .int .i64 (if j < k then ((b j).length : Int) else 0)
structure SeenAt (b : Book) (w : World) (k : Nat) (wr : World) : Prop where
  cells : wr.heap[w.heap.size + 1]? = some (.cells #[seenTo b k 0, seenTo b k 1, seenTo b k 2, seenTo b k 3] 34 (0, 0))
  res : wr.heap[w.heap.size]? = some (.cells #[.int .i64 0, .int .i64 0, .int .i64 0, .int .i64 0] 34 (0, 0))
  below : Below w.heap.size w wr
theorem SeenAt.next {b : Book} {w wr : World} {k : Nat} (h : SeenAt b w k wr) (hk : k < 4) : SeenAt b w (k + 1) (wr.setCell ⟨w.heap.size + 1, k, none⟩ (.int .i64 ((b k).length : Int))) := by
  refine ⟨?_, (Below.heap_setCell _ _ _ _ (by simp)).trans h.res, h.below.setCell (p := ⟨w.heap.size + 1, k, none⟩) (by simp) _⟩
  rw [setCell_four h.cells]
  unfold seenTo
  rcases (show k = 0 ∨ k = 1 ∨ k = 2 ∨ k = 3 by omega) with rfl | rfl | rfl | rfl <;> simp
set_option maxRecDepth 100000 in
set_option maxHeartbeats 4000000 in
theorem seen_post (P n : Nat) (F : List Nat) (b : Book) (w : World) (h : PostAt w P F n b) (hok : BookOk b) :
    Calls Tryz.prog 21 #[.pointer (some ⟨P, 0, none⟩)] w (SeenPost b w) := by
  obtain ⟨K, vs, hP, hvs, hF⟩ := h.parts
  have HS := Lib.hid hvs
  have HPC := Lib.hid hP
  have HOK := Lib.hid (fun i hi => (hok i hi).len)
  clear h hP hvs hF hok
  obtain ⟨w2, hw2⟩ : ∃ w2, w2 = (w.alloc (.cells #[.int .i64 0, .int .i64 0, .int .i64 0, .int .i64 0] 34)).alloc (.cells #[.int .i64 0, .int .i64 0, .int .i64 0, .int .i64 0] 34) := ⟨_, rfl⟩
  have H2 : Hid (SeenAt b w 0 w2) := Lib.hid (by
    refine ⟨?_, ?_, by rw [hw2]; exact ((Below.refl _ w).alloc (Nat.le_refl _) _).alloc (by simp) _⟩
    · have := World.alloc_heap_new (w.alloc (.cells #[.int .i64 0, .int .i64 0, .int .i64 0, .int .i64 0] 34)) (.cells #[.int .i64 0, .int .i64 0, .int .i64 0, .int .i64 0] 34)
      rw [World.size_alloc] at this
      rw [hw2]; exact this
    · rw [hw2]; exact (Below.heap_alloc _ _ _ (by simp)).trans (World.alloc_heap_new w _))
  have HW2 := Lib.hid hw2
  clear hw2
  go_enter Tryz.func21, Tryz.ntmps21
  go_wp2_with fail
  rw [← HW2.out]
  go_loopw [5] (fun i wr => ∃ k : Nat, k ≤ 4 ∧ i = .int .i64 k ∧ Hid (SeenAt b w k wr)) (fun i _ => 4 - (intOf i).toNat)
  case atStart => exact ⟨0, Nat.zero_le _, rfl, H2⟩
  case round =>
    obtain ⟨k, hk, rfl, ho⟩ := hrel
    by_cases hlt : k < 4
    · have hlt2 : (k : Int) < 4 := by omega
      have hge : (0 : Int) ≤ (k : Int) := by omega
      have S1 := Lib.hid (HS.out.below ho.out.below)
      have P1 := Lib.hid ((ho.out.below.block P (Array.getElem?_eq_some_iff.1 HPC.out).1).trans HPC.out)
      have HN := Lib.hid (none_any P K n _ wr P1.out)
      obtain ⟨a1, c1, e1⟩ := S1.out.slice hlt
      have q1 := S1.out.cell hlt
      rw [e1] at q1
      have hlen := HOK.out k hlt
      have HNX := Lib.hid (ho.out.next hlt)
      have p0 := heap_cell (j := 0) P1.out rfl
      have x0 : ∃ u, wr.cell? ⟨w.heap.size + 1, k, none⟩ = some u := by
        rcases (show k = 0 ∨ k = 1 ∨ k = 2 ∨ k = 3 by omega) with rfl | rfl | rfl | rfl <;> exact ⟨_, heap_cell ho.out.cells rfl⟩
      obtain ⟨u4, hu4⟩ := x0
      have g0 : wr.frozen? ⟨w.heap.size + 1, k, none⟩ = false := by have h9 := ho.out.cells; simp [World.frozen?, h9]
      clear e1
      generalize (b k).length = bl at *
      go_wp2_with fail
      refine HN.out.mono ?_
      rintro e w3 ⟨rfl, rfl⟩
      go_wp2
      go_roundw
      case rel => exact ⟨k + 1, by omega, by go_num, HNX⟩
      case measure => simp [intOf]; omega
    · have e : k = 4 := by omega
      subst e
      have r0 := heap_cell (j := 0) ho.out.res rfl
      have r1 := heap_cell (j := 1) ho.out.res rfl
      have r2 := heap_cell (j := 2) ho.out.res rfl
      have r3 := heap_cell (j := 3) ho.out.res rfl
      have g0 : ∀ j, wr.frozen? ⟨w.heap.size, j, none⟩ = false := fun j => by have h9 := ho.out.res; simp [World.frozen?, h9]
      have y0 : wr.cell? ⟨w.heap.size + 1, 0, none⟩ = some (.int .i64 ((b 0).length : Int)) := heap_cell (j := 0) ho.out.cells rfl
      have y1 : wr.cell? ⟨w.heap.size + 1, 1, none⟩ = some (.int .i64 ((b 1).length : Int)) := heap_cell (j := 1) ho.out.cells rfl
      have y2 : wr.cell? ⟨w.heap.size + 1, 2, none⟩ = some (.int .i64 ((b 2).length : Int)) := heap_cell (j := 2) ho.out.cells rfl
      have y3 : wr.cell? ⟨w.heap.size + 1, 3, none⟩ = some (.int .i64 ((b 3).length : Int)) := heap_cell (j := 3) ho.out.cells rfl
      go_wp2
      refine bodyPost_ret (v := .agg #[.int .i64 ((b 0).length : Int), .int .i64 ((b 1).length : Int), .int .i64 ((b 2).length : Int), .int .i64 ((b 3).length : Int)]) (by simp [results, Tryz.results21, go_sem, r0, r1, r2, r3]) rfl ⟨rfl, ?_⟩
      exact below_four ho.out.below (Nat.le_refl _) _ _ _ _
end Go.Proofs.YtdfkaijeppdhaaaGreatDoor

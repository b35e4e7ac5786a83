/- Contracts of a post's methods: Do, Number, Count, Since, Book. -/
import Derived.Test.YtdfkaijeppdhaaaGreatDoorExp
import Derived.Test.YtdfkaijeppdhaaaGreatDoorExa
import Derived.Test.YtdfkaijeppdhaaaGreatDoorExd
import Derived.Test.YtdfkaijeppdhaaaGreatDoorExn
import Derived.Test.YtdfkaijeppdhaaaGreatDoorEz
namespace Go.Proofs.YtdfkaijeppdhaaaGreatDoor
open Go.RowKit Go.Shelf

/-- Do of any line. -/
theorem do_any (P n : Nat) (hn : n < 4) (F : List Nat) (b : Book) (line : ByteArray) (hs : line.size ≤ 1000000) (w : World) (h : PostAt w P F n b) (hok : BookOk b) (hV : Vars w) (hfree : ∀ k ∈ F, ¬ isVar k) :
    Calls Tryz.prog 24 #[.pointer (some ⟨P, 0, none⟩), .string line] w (DoPost P n F (doB b n line) w) := by
  cases hc : parseB line with
  | none =>
    rw [show doB b n line = (emp, 100, b) by unfold doB; rw [hc]]
    exact do_no P n F b line hs w h hV (by rw [hc]; rfl)
  | some c =>
    by_cases hd : c.deed = false
    · rw [show doB b n line = (emp, 100, b) by unfold doB; rw [hc]; simp only; rw [if_pos hd]]
      exact do_no P n F b line hs w h hV (by rw [hc]; exact hd)
    · cases c with
      | put nm tx => exact do_put P n hn F b line hs w h hok hV hfree nm tx hc
      | add nm mm => exact do_add P n hn F b line hs w h hok hV hfree nm mm hc
      | drop nm =>
        cases htx : (saysB (allB b)).txt nm with
        | none => exact do_drop_none P n hn F b line hs w h hok hV hfree nm hc htx
        | some tx => exact do_drop P n hn F b line hs w h hok hV hfree nm tx hc htx
      | stock nm => exact absurd rfl hd
      | share m nms => exact absurd rfl hd
      | asked k nms ns => exact absurd rfl hd

/-- No post: nil, or one that no call has made. -/
def NoPost (w : World) (v : Value) : Prop := v = .pointer none ∨ ∃ P, v = .pointer (some ⟨P, 0, none⟩) ∧ w.heap[P]? = some (.cells #[.pointer none, .int .i64 0] 81 (0, 0))
theorem NoPost.below {w w' : World} {v : Value} (h : NoPost w v) (hb : Below w.heap.size w w') : NoPost w' v := by
  rcases h with h | ⟨P, h, hP⟩
  · exact .inl h
  · exact .inr ⟨P, h, (hb.block P (Array.getElem?_eq_some_iff.1 hP).1).trans hP⟩
set_option maxHeartbeats 400000 in
theorem none_no (v : Value) (w : World) (h : NoPost w v) : Calls Tryz.prog 51 #[v] w fun e w' => e = .returned (.bool true) ∧ w = w' := by
  rcases h with rfl | ⟨P, rfl, hP⟩
  · exact none_nil w
  · have c0 : w.cell? ⟨P, 0, none⟩ = some (.pointer none) := heap_cell hP rfl
    clear hP
    go_enter Tryz.func51, Tryz.ntmps51
    go_wp2
    go_ret
    exact ⟨rfl, rfl⟩
theorem PostAt.parts {w : World} {P n : Nat} {F : List Nat} {b : Book} (h : PostAt w P F n b) : ∃ K vs, w.heap[P]? = some (.cells #[.pointer (some ⟨K, 0, none⟩), .int .i64 n] 81 (0, 0)) ∧ BookIs w K vs b ∧ F = P :: K :: blks (vs 0) (vs 1) (vs 2) (vs 3) := by
  obtain ⟨K, G, hP, hB, hF⟩ := h
  obtain ⟨vs, hvs, rfl⟩ := bookIs_of hB
  exact ⟨K, vs, hP, hvs, hF⟩
set_option maxHeartbeats 400000 in
theorem number_post (P n : Nat) (F : List Nat) (b : Book) (w : World) (h : PostAt w P F n b) : Calls Tryz.prog 38 #[.pointer (some ⟨P, 0, none⟩)] w fun e w' => e = .returned (.int .i64 n) ∧ w = w' := by
  obtain ⟨K, vs, hP, hvs, hF⟩ := h.parts
  have HN := Lib.hid (none_any P K n _ w hP)
  have p0 := heap_cell (j := 0) hP rfl
  have p1 := heap_cell (j := 1) hP rfl
  have HPC := Lib.hid hP
  clear hP
  clear hvs hF h
  go_enter Tryz.func38, Tryz.ntmps38
  go_wp2_with fail
  refine HN.out.mono ?_
  rintro e w' ⟨rfl, rfl⟩
  go_wp2
  go_ret
  exact ⟨rfl, rfl⟩
set_option maxHeartbeats 400000 in
theorem number_none (v : Value) (w : World) (h : NoPost w v) : Calls Tryz.prog 38 #[v] w fun e w' => e = .returned (.int .i64 (-1)) ∧ w = w' := by
  have HN := Lib.hid (none_no v w h)
  clear h
  go_enter Tryz.func38, Tryz.ntmps38
  go_wp2_with fail
  refine HN.out.mono ?_
  rintro e w' ⟨rfl, rfl⟩
  go_wp2
  go_ret
  exact ⟨rfl, rfl⟩
set_option maxHeartbeats 400000 in
theorem count_post (P n : Nat) (F : List Nat) (b : Book) (w : World) (h : PostAt w P F n b) (hok : BookOk b) : Calls Tryz.prog 23 #[.pointer (some ⟨P, 0, none⟩)] w fun e w' => e = .returned (.int .i64 (cntB b)) ∧ w = w' := by
  obtain ⟨K, vs, hP, hvs, hF⟩ := h.parts
  have HN := Lib.hid (none_any P K n _ w hP)
  have p0 := heap_cell (j := 0) hP rfl
  have p1 := heap_cell (j := 1) hP rfl
  have HPC := Lib.hid hP
  clear hP
  have HC := Lib.hid (count_any K _ b w hvs.at (fun i hi => (hok i hi).len))
  clear hvs hF h hok
  go_enter Tryz.func23, Tryz.ntmps23
  go_wp2_with fail
  refine HN.out.mono ?_
  rintro e w' ⟨rfl, rfl⟩
  go_wp2_with fail
  refine HC.out.mono ?_
  rintro e w' ⟨rfl, rfl⟩
  go_wp2
  go_ret
  exact ⟨rfl, rfl⟩
set_option maxHeartbeats 400000 in
theorem count_none (v : Value) (w : World) (h : NoPost w v) : Calls Tryz.prog 23 #[v] w fun e w' => e = .returned (.int .i64 0) ∧ w = w' := by
  have HN := Lib.hid (none_no v w h)
  clear h
  go_enter Tryz.func23, Tryz.ntmps23
  go_wp2_with fail
  refine HN.out.mono ?_
  rintro e w' ⟨rfl, rfl⟩
  go_wp2
  go_ret
  exact ⟨rfl, rfl⟩
set_option maxHeartbeats 1000000 in
theorem since_post (P n : Nat) (F : List Nat) (b : Book) (s0 s1 s2 s3 : Int) (seen : Nat → Int) (hs : seen 0 = s0 ∧ seen 1 = s1 ∧ seen 2 = s2 ∧ seen 3 = s3) (w : World) (h : PostAt w P F n b) (hok : BookOk b) :
    Calls Tryz.prog 32 #[.pointer (some ⟨P, 0, none⟩), .agg #[.int .i64 s0, .int .i64 s1, .int .i64 s2, .int .i64 s3]] w (SincePost (sinceB b seen) w) := by
  obtain ⟨K, vs, hP, hvs, hF⟩ := h.parts
  have HN := Lib.hid (none_any P K n _ w hP)
  have p0 := heap_cell (j := 0) hP rfl
  have p1 := heap_cell (j := 1) hP rfl
  have HPC := Lib.hid hP
  clear hP
  obtain ⟨o3, ho3⟩ : ∃ o3 : Obj, o3 = .cells #[.int .i64 s0, .int .i64 s1, .int .i64 s2, .int .i64 s3] 34 := ⟨_, rfl⟩
  have hb3 : Below w.heap.size w (w.alloc o3) := (Below.refl _ _).alloc (Nat.le_refl _) _
  have HN3 := Lib.hid (none_any P K n _ (w.alloc o3) ((hb3.block P (h.lt (by rw [hF]; simp))).trans HPC.out))
  have HC := Lib.hid (fun W (hW : Below w.heap.size w W) => since_any K _ b s0 s1 s2 s3 seen hs W (hvs.below hW).at (fun i hi => (hok i hi).len) hok)
  have HB3 := Lib.hid hb3
  have q0 := keep_cell hb3 p0
  have z0 := heap_cell (j := 0) (show (w.alloc o3).heap[w.heap.size]? = some (.cells #[.int .i64 s0, .int .i64 s1, .int .i64 s2, .int .i64 s3] 34 (0, 0)) by rw [World.alloc_heap_new, ho3]) rfl
  have z1 := heap_cell (j := 1) (show (w.alloc o3).heap[w.heap.size]? = some (.cells #[.int .i64 s0, .int .i64 s1, .int .i64 s2, .int .i64 s3] 34 (0, 0)) by rw [World.alloc_heap_new, ho3]) rfl
  have z2 := heap_cell (j := 2) (show (w.alloc o3).heap[w.heap.size]? = some (.cells #[.int .i64 s0, .int .i64 s1, .int .i64 s2, .int .i64 s3] 34 (0, 0)) by rw [World.alloc_heap_new, ho3]) rfl
  have z3 := heap_cell (j := 3) (show (w.alloc o3).heap[w.heap.size]? = some (.cells #[.int .i64 s0, .int .i64 s1, .int .i64 s2, .int .i64 s3] 34 (0, 0)) by rw [World.alloc_heap_new, ho3]) rfl
  have HO3 := Lib.hid ho3
  clear hvs hF h hok hs hb3 ho3
  go_enter Tryz.func32, Tryz.ntmps32
  go_wp2_with fail
  rw [← HO3.out]
  refine HN3.out.mono ?_
  rintro e w' ⟨rfl, rfl⟩
  go_wp2
  go_region_with (go_at_call 63; refine (HC.out _ (belowD HB3.out _)).mono ?_; rintro e w2 ⟨v, rfl, h1, h2, h3⟩; have HX := Lib.hid (And.intro h1 (And.intro h2 h3)); clear h1 h2 h3)
  all_goals go_wp2
  all_goals go_ret
  all_goals exact ⟨v, rfl, HX.out.1, fun k hk => by have := HX.out.2.1 k hk; have := HB3.out.size; simp at *; omega, (belowD HB3.out _).trans (HX.out.2.2.mono (by have := HB3.out.size; simp at *))⟩
theorem listAt_none (w : World) : ListAt w (.slice none 0 0) [] := listAt_nil w
set_option maxHeartbeats 400000 in
theorem since_none (v : Value) (s0 s1 s2 s3 : Int) (w : World) (h : NoPost w v) : Calls Tryz.prog 32 #[v, .agg #[.int .i64 s0, .int .i64 s1, .int .i64 s2, .int .i64 s3]] w (SincePost [] w) := by
  have HN := Lib.hid (fun o => none_no v (w.alloc o) (h.below ((Below.refl _ _).alloc (Nat.le_refl _) o)))
  clear h
  go_enter Tryz.func32, Tryz.ntmps32
  go_wp2_with fail
  refine (HN.out _).mono ?_
  rintro e w' ⟨rfl, rfl⟩
  go_wp2
  go_ret
  exact ⟨_, rfl, listAt_nil _, by simp [Value.ownBlock], (Below.refl _ _).alloc (Nat.le_refl _) _⟩
theorem allB_since (b : Book) : allB b = sinceB b fun _ => 0 := rfl
set_option maxHeartbeats 400000 in
theorem book_post (P n : Nat) (F : List Nat) (b : Book) (w : World) (h : PostAt w P F n b) (hok : BookOk b) :
    Calls Tryz.prog 25 #[.pointer (some ⟨P, 0, none⟩)] w (SincePost (allB b) w) := by
  have HS := Lib.hid (since_post P n F b 0 0 0 0 (fun _ => 0) ⟨rfl, rfl, rfl, rfl⟩ w h hok)
  rw [allB_since]
  clear h hok
  go_enter Tryz.func25, Tryz.ntmps25
  go_wp2_with fail
  refine HS.out.mono ?_
  rintro e w' ⟨v, rfl, h1, h2, h3⟩
  go_wp2
  go_ret
  exact ⟨v, rfl, h1, h2, h3⟩
set_option maxHeartbeats 400000 in
theorem book_none (v : Value) (w : World) (h : NoPost w v) :
    Calls Tryz.prog 25 #[v] w (SincePost [] w) := by
  have HS := Lib.hid (since_none v 0 0 0 0 w h)
  clear h
  go_enter Tryz.func25, Tryz.ntmps25
  go_wp2_with fail
  refine HS.out.mono ?_
  rintro e w' ⟨v, rfl, h1, h2, h3⟩
  go_wp2
  go_ret
  exact ⟨v, rfl, h1, h2, h3⟩
end Go.Proofs.YtdfkaijeppdhaaaGreatDoor

/- Contracts of a post's methods: Text, Same. -/
import Derived.Test.YtdfkaijeppdhaaaGreatDoorFe
namespace Go.Proofs.YtdfkaijeppdhaaaGreatDoor
open Go.RowKit Go.Shelf

theorem ba_beq (a b : ByteArray) : (a.toList == b.toList) = decide (a = b) := by
  by_cases h : a = b
  · subst h; simp
  · rw [ba_lne h, decide_eq_false h]
def StrPost (s : ByteArray) (w : World) (e : Ending) (w' : World) : Prop := e = .returned (.string s) ∧ Below w.heap.size w w'
set_option maxHeartbeats 400000 in
theorem text_post (P n : Nat) (F : List Nat) (b : Book) (w : World) (h : PostAt w P F n b) (hok : BookOk b) (hV : Vars w) :
    Calls Tryz.prog 29 #[.pointer (some ⟨P, 0, none⟩)] w (StrPost (textB b) w) := by
  obtain ⟨K, vs, hP, hvs, hF⟩ := h.parts
  have HN := Lib.hid (none_any P K n _ w hP)
  have HT := Lib.hid (text_any K _ b w hvs.at hok hV)
  have p0 := heap_cell (j := 0) hP rfl
  clear h hP hvs hF hok hV
  go_enter Tryz.func29, Tryz.ntmps29
  go_wp2_with fail
  refine HN.out.mono ?_
  rintro e w' ⟨rfl, rfl⟩
  go_wp2_with fail
  refine HT.out.mono ?_
  rintro e w' ⟨rfl, hb⟩
  go_wp2
  go_ret
  exact ⟨rfl, hb⟩
set_option maxHeartbeats 400000 in
theorem text_none (v : Value) (w : World) (h : NoPost w v) : Calls Tryz.prog 29 #[v] w fun e w' => e = .returned (.string emp) ∧ w = w' := by
  have HN := Lib.hid (none_no v w h)
  clear h
  go_enter Tryz.func29, Tryz.ntmps29
  go_wp2_with fail
  refine HN.out.mono ?_
  rintro e w' ⟨rfl, rfl⟩
  go_wp2
  go_ret
  exact ⟨rfl, rfl⟩
def BoolPost (q : Bool) (w : World) (e : Ending) (w' : World) : Prop := e = .returned (.bool q) ∧ Below w.heap.size w w'
set_option maxHeartbeats 4000000 in
theorem same_post (P n : Nat) (F : List Nat) (b : Book) (P2 n2 : Nat) (F2 : List Nat) (b2 : Book) (w : World) (h : PostAt w P F n b) (h2 : PostAt w P2 F2 n2 b2) (hok : BookOk b) (hok2 : BookOk b2) (hV : Vars w) :
    Calls Tryz.prog 37 #[.pointer (some ⟨P, 0, none⟩), .pointer (some ⟨P2, 0, none⟩)] w (BoolPost (decide (textB b = textB b2)) w) := by
  obtain ⟨K, vs, hP, hvs, hF⟩ := h.parts
  obtain ⟨K2, vs2, hP2, hvs2, hF2⟩ := h2.parts
  have HN := Lib.hid (none_any P K n _ w hP)
  have HN2 := Lib.hid (none_any P2 K2 n2 _ w hP2)
  have HT := Lib.hid (fun W (hW : KB w W) => text_any K _ b W (hvs.below hW).at hok (hV.below hW))
  have HT2 := Lib.hid (fun W (hW : KB w W) => text_any K2 _ b2 W (hvs2.below hW).at hok2 (hV.below hW))
  have r0 : ∀ W, KB w W → W.cell? ⟨P, 0, none⟩ = some (.pointer (some ⟨K, 0, none⟩)) := fun W hW => keep_cell hW (heap_cell hP rfl)
  have r1 : ∀ W, KB w W → W.cell? ⟨P2, 0, none⟩ = some (.pointer (some ⟨K2, 0, none⟩)) := fun W hW => keep_cell hW (heap_cell hP2 rfl)
  obtain ⟨t1, ht1⟩ : ∃ t, t = textB b := ⟨_, rfl⟩
  obtain ⟨t2, ht2⟩ : ∃ t, t = textB b2 := ⟨_, rfl⟩
  rw [← ht1, ← ht2]
  rw [← ht1] at HT
  rw [← ht2] at HT2
  clear h h2 hP hP2 hvs hvs2 hF hF2 hok hok2 hV ht1 ht2
  go_enter Tryz.func37, Tryz.ntmps37
  go_wp2_with fail
  refine HN.out.mono ?_
  rintro e w' ⟨rfl, rfl⟩
  go_wp2_with fail
  refine HN2.out.mono ?_
  rintro e w' ⟨rfl, rfl⟩
  go_wp2
  go_region_held3 (fun W => KB w W) (first | exact KB.refl _ | exact KB.drew (KB.refl _) | assumption | exact KB.drew (by assumption) | fail) (first
  | (go_at_call_of 62 (Value.pointer (some (⟨K, 0, none⟩ : Addr))); refine (HT.out _ (by first | exact KB.refl _ | exact KB.drew (KB.refl _) | assumption | exact KB.drew (by assumption))).mono ?_; rintro e w2 ⟨rfl, hb2⟩; have hk2 := KB.call (w := w) (by first | exact KB.refl _ | exact KB.drew (KB.refl _) | assumption | exact KB.drew (by assumption)) hb2; clear hb2)
  | (go_at_call_of 62 (Value.pointer (some (⟨K2, 0, none⟩ : Addr))); refine (HT2.out _ (by first | exact KB.refl _ | exact KB.drew (KB.refl _) | assumption | exact KB.drew (by assumption))).mono ?_; rintro e w2 ⟨rfl, hb2⟩; have hk2 := KB.call (w := w) (by first | exact KB.refl _ | exact KB.drew (KB.refl _) | assumption | exact KB.drew (by assumption)) hb2; clear hb2)
  | fail)
  all_goals rw [ba_beq]
  all_goals go_wp2
  all_goals go_ret
  all_goals exact ⟨rfl, by assumption⟩
set_option maxHeartbeats 1000000 in
theorem same_none_post (v : Value) (P n : Nat) (F : List Nat) (b : Book) (w : World) (h : NoPost w v) (h2 : PostAt w P F n b) :
    Calls Tryz.prog 37 #[v, .pointer (some ⟨P, 0, none⟩)] w fun e w' => e = .returned (.bool false) ∧ w = w' := by
  obtain ⟨K, vs, hP, hvs, hF⟩ := h2.parts
  have HN := Lib.hid (none_no v w h)
  have HN2 := Lib.hid (none_any P K n _ w hP)
  clear h h2 hP hvs hF
  go_enter Tryz.func37, Tryz.ntmps37
  go_wp2_with fail
  refine HN.out.mono ?_
  rintro e w' ⟨rfl, rfl⟩
  go_wp2_with fail
  refine HN.out.mono ?_
  rintro e w' ⟨rfl, rfl⟩
  go_wp2_with fail
  refine HN2.out.mono ?_
  rintro e w' ⟨rfl, rfl⟩
  go_wp2
  go_ret
  exact ⟨rfl, rfl⟩
set_option maxHeartbeats 1000000 in
theorem same_post_none (v : Value) (P n : Nat) (F : List Nat) (b : Book) (w : World) (h : NoPost w v) (h2 : PostAt w P F n b) :
    Calls Tryz.prog 37 #[.pointer (some ⟨P, 0, none⟩), v] w fun e w' => e = .returned (.bool false) ∧ w = w' := by
  obtain ⟨K, vs, hP, hvs, hF⟩ := h2.parts
  have HN := Lib.hid (none_no v w h)
  have HN2 := Lib.hid (none_any P K n _ w hP)
  clear h h2 hP hvs hF
  go_enter Tryz.func37, Tryz.ntmps37
  go_wp2_with fail
  refine HN2.out.mono ?_
  rintro e w' ⟨rfl, rfl⟩
  go_wp2_with fail
  refine HN.out.mono ?_
  rintro e w' ⟨rfl, rfl⟩
  go_wp2_with fail
  refine HN2.out.mono ?_
  rintro e w' ⟨rfl, rfl⟩
  go_wp2
  go_ret
  exact ⟨rfl, rfl⟩
set_option maxHeartbeats 1000000 in
theorem same_none_none (v v2 : Value) (w : World) (h : NoPost w v) (h2 : NoPost w v2) :
    Calls Tryz.prog 37 #[v, v2] w fun e w' => e = .returned (.bool true) ∧ w = w' := by
  have HN := Lib.hid (none_no v w h)
  have HN2 := Lib.hid (none_no v2 w h2)
  clear h h2
  go_enter Tryz.func37, Tryz.ntmps37
  go_wp2_with fail
  refine HN.out.mono ?_
  rintro e w' ⟨rfl, rfl⟩
  go_wp2_with fail
  refine HN.out.mono ?_
  rintro e w' ⟨rfl, rfl⟩
  go_wp2_with fail
  refine HN2.out.mono ?_
  rintro e w' ⟨rfl, rfl⟩
  go_wp2
  go_ret
  exact ⟨rfl, rfl⟩
/-! ### The other methods of no post -/
set_option maxHeartbeats 400000 in
theorem do_none (v : Value) (line : ByteArray) (w : World) (h : NoPost w v) : Calls Tryz.prog 24 #[v, .string line] w fun e w' => e = .returned (.tuple #[.string emp, .int .i64 101]) ∧ w = w' := by
  have HN := Lib.hid (none_no v w h)
  clear h
  go_enter Tryz.func24, Tryz.ntmps24
  go_wp2_with fail
  refine HN.out.mono ?_
  rintro e w' ⟨rfl, rfl⟩
  go_wp2
  go_ret2
  exact ⟨rfl, rfl⟩
set_option maxHeartbeats 400000 in
theorem ask_none (v : Value) (line : ByteArray) (w : World) (h : NoPost w v) : Calls Tryz.prog 36 #[v, .string line] w fun e w' => e = .returned (.tuple #[.string emp, .int .i64 101]) ∧ w = w' := by
  have HN := Lib.hid (none_no v w h)
  clear h
  go_enter Tryz.func36, Tryz.ntmps36
  go_wp2_with fail
  refine HN.out.mono ?_
  rintro e w' ⟨rfl, rfl⟩
  go_wp2
  go_ret2
  exact ⟨rfl, rfl⟩
set_option maxHeartbeats 400000 in
theorem hear_none (v : Value) (t : ByteArray) (w : World) (h : NoPost w v) : Calls Tryz.prog 44 #[v, .string t] w fun e w' => e = .returned (.int .i64 101) ∧ w = w' := by
  have HN := Lib.hid (none_no v w h)
  clear h
  go_enter Tryz.func44, Tryz.ntmps44
  go_wp2_with fail
  refine HN.out.mono ?_
  rintro e w' ⟨rfl, rfl⟩
  go_wp2
  go_ret
  exact ⟨rfl, rfl⟩
set_option maxHeartbeats 400000 in
theorem copy_none (v : Value) (w : World) (h : NoPost w v) : Calls Tryz.prog 35 #[v] w fun e w' => e = .returned (.pointer none) ∧ w = w' := by
  have HN := Lib.hid (none_no v w h)
  clear h
  go_enter Tryz.func35, Tryz.ntmps35
  go_wp2_with fail
  refine HN.out.mono ?_
  rintro e w' ⟨rfl, rfl⟩
  go_wp2
  go_ret
  exact ⟨rfl, rfl⟩
end Go.Proofs.YtdfkaijeppdhaaaGreatDoor

/- Contracts: about. -/
import Derived.Test.YtdfkaijeppdhaaaGreatDoorEg
import Derived.Laws.EntriesVeiled
namespace Go.Proofs.YtdfkaijeppdhaaaGreatDoor
open Go.RowKit Go.Shelf

def IntsAt (w : World) (v : Value) (l : List Int) : Prop :=
  ∃ (a : Option Addr) (cap : Nat), v = .slice a l.length cap ∧ l.length ≤ 9223372036854775807 ∧
    (0 < l.length → ∃ b off, a = some ⟨b, off, none⟩ ∧ ∀ i, i < l.length → w.cell? ⟨b, off + i, none⟩ = some (.int .i64 (l.getD i 0)))
theorem IntsAt.below {w w' : World} {v : Value} {l : List Int} (h : IntsAt w v l) (hb : Below w.heap.size w w') : IntsAt w' v l := by
  obtain ⟨a, cap, rfl, hl, h⟩ := h
  refine ⟨a, cap, rfl, hl, fun h0 => ?_⟩
  obtain ⟨b, off, ha, hc⟩ := h h0
  exact ⟨b, off, ha, fun i hi => keep_cell hb (hc i hi)⟩
theorem ints_own {base : Nat} {w : World} {v : Value} {l : List Int} (h : w.ownsRow base 3 1 v l.length (l.map (Value.int .i64))) (hl : l.length ≤ 9223372036854775807) : IntsAt w v l := by
  rcases h.2 with ⟨rfl, h0⟩ | ⟨g, cap, cur, rfl, hrest⟩
  · exact ⟨none, 0, by rw [h0], hl, fun h1 => by omega⟩
  · refine ⟨some ⟨g, 0, none⟩, cap, rfl, hl, fun _ => ⟨g, 0, rfl, fun j hj => ?_⟩⟩
    have := h.cellAt j (by omega)
    rw [Nat.zero_add, this, List.getElem?_map, List.getElem?_eq_getElem hj, List.getD_eq_getElem?_getD, List.getElem?_eq_getElem hj]
    rfl
/-- The function of a kind of question. -/
def kindF (k : Nat) : Nat := if k = 0 then 116 else if k = 1 then 117 else if k = 2 then 118 else 119
/-- How a line's deed or question lies in memory. -/
def CmdAt (w : World) (v : Value) : Cmd → Prop
  | .put n t => v = .iface 136 (.agg #[.string n, .string t])
  | .drop n => v = .iface 138 (.agg #[.string n])
  | .add n m => v = .iface 143 (.agg #[.string n, .int .i64 m])
  | .stock n => v = .iface 139 (.agg #[.string n])
  | .share n l => ∃ s, v = .iface 146 (.agg #[.int .i64 n, s]) ∧ StrsAt w s l
  | .asked k l ns => ∃ a b, v = .iface 185 (.agg #[a, b, .func (.func (kindF k)) #[] #[]]) ∧ StrsAt w a l ∧ IntsAt w b ns
def CmdO (w : World) (v : Value) : Option Cmd → Prop
  | none => v = .nilIface
  | some c => CmdAt w v c
def GivesC (w : World) (o : Option Cmd) (e : Ending) (w' : World) : Prop := (∃ v, e = .returned v ∧ CmdO w' v o) ∧ Below w.heap.size w w'
theorem CmdO.below {w w' : World} {v : Value} {o : Option Cmd} (h : CmdO w v o) (hb : Below w.heap.size w w') : CmdO w' v o := by
  cases o with
  | none => exact h
  | some c =>
    cases c with
    | share n l => obtain ⟨s, h1, h2⟩ := h; exact ⟨s, h1, h2.below hb⟩
    | asked k l ns => obtain ⟨a, b, h1, h2, h3⟩ := h; exact ⟨a, b, h1, h2.below hb, h3.below hb⟩
    | _ => exact h

set_option maxHeartbeats 1000000 in
theorem about_none (x : ByteArray) (v : Value) (w : World) (h : kindB x = none) :
    Calls Tryz.prog 90 #[.string x, v] w (GivesC w none) := by
  have h1 : x ≠ textW := fun e => by rw [e] at h; revert h; decide
  have h2 : x ≠ beatW := fun e => by rw [e] at h; revert h; decide
  have h3 : x ≠ farW := fun e => by rw [e] at h; revert h; decide
  have h4 : x ≠ driftW := fun e => by rw [e] at h; revert h; decide
  have k1 := ne_word h1
  have k2 := ne_word h2
  have k3 := ne_word h3
  have k4 := ne_word h4
  clear h h1 h2 h3 h4
  go_enter Tryz.func90, Tryz.ntmps90
  go_wp2
  go_ret
  exact ⟨⟨_, rfl, rfl⟩, (Below.refl _ _).alloc (Nat.le_refl _) _⟩
theorem own_shape {base : Nat} {w : World} {e : TypeId} {sz : Nat} {v : Value} {n : Nat} {xs : List Value} (h : w.ownsRow base e sz v n xs) : ∃ a cap, v = .slice a n cap := by
  rcases h.2 with ⟨rfl, h0⟩ | ⟨g, cap, cur, rfl, _⟩
  · exact ⟨none, 0, by rw [h0]⟩
  · exact ⟨_, _, rfl⟩
/-- A slice of words, its capacity its length. -/
def RestAt (w : World) (b off : Nat) (l : List ByteArray) : Prop := ∀ j, j < l.length → w.cell? ⟨b, off + j, none⟩ = some (.string (l.getD j emp))
theorem RestAt.strs {w : World} {b off : Nat} {l : List ByteArray} (h : RestAt w b off l) (hl : l.length ≤ 1000000) : StrsAt w (.slice (some ⟨b, off, none⟩) l.length l.length) l :=
  ⟨_, _, rfl, Nat.le_refl _, by omega, fun _ => ⟨b, off, rfl, h⟩⟩
theorem getD_take' {l : List ByteArray} {k j : Nat} (h : j < k) (_hl : k ≤ l.length) : (l.take k).getD j emp = l.getD j emp := by
  rw [List.getD_eq_getElem?_getD, List.getD_eq_getElem?_getD, List.getElem?_take_of_lt h]
theorem RestAt.take {w : World} {b off : Nat} {l : List ByteArray} (h : RestAt w b off l) (k : Nat) (hk : k ≤ l.length) (hl : l.length ≤ 2000000) : StrsAt w (.slice (some ⟨b, off, none⟩) k l.length) (l.take k) := by
  have hlen : (l.take k).length = k := by rw [List.length_take]; omega
  refine ⟨_, l.length, by rw [hlen], by omega, by omega, fun _ => ⟨b, off, rfl, fun j hj => ?_⟩⟩
  rw [hlen] at hj
  rw [h j (by omega), getD_take' hj hk]
theorem RestAt.drop {w : World} {b off : Nat} {l : List ByteArray} (h : RestAt w b off l) (k : Nat) : RestAt w b (off + k) (l.drop k) := fun j hj => by
  rw [List.length_drop] at hj
  rw [Nat.add_assoc, h (k + j) (by omega)]
  congr 2
  rw [List.getD_eq_getElem?_getD, List.getD_eq_getElem?_getD, List.getElem?_drop]
theorem strs_empty (w : World) (a : Option Addr) (c : Nat) (hc : c ≤ 1000000) : StrsAt w (.slice a 0 c) [] := ⟨a, c, rfl, by simp, by omega, fun h => by simp at h⟩
theorem RestAt.below {w w' : World} {b off : Nat} {l : List ByteArray} (h : RestAt w b off l) (hb : Below w.heap.size w w') : RestAt w' b off l := fun j hj => keep_cell hb (h j hj)
theorem below_set_new {w W : World} {b k : Nat} {v : Value} (h : Below w.heap.size w W) (hb : w.heap.size ≤ b) : Below w.heap.size w (W.setCell ⟨b, k, none⟩ v) := h.setCell (p := ⟨b, k, none⟩) hb v

def askedO (k many : Nat) (l : List ByteArray) : Option Cmd := match (l.take many).all isNameB, allS numV (l.drop many) with
  | true, some ns => some (.asked k (l.take many) ns)
  | _, _ => none
theorem askedO_no {k many : Nat} {l : List ByteArray} (h : (l.take many).all isNameB = false) : askedO k many l = none := by unfold askedO; rw [h]
theorem askedO_none {k many : Nat} {l : List ByteArray} (h : allS numV (l.drop many) = none) : askedO k many l = none := by unfold askedO; rw [h]; cases (l.take many).all isNameB <;> rfl
theorem askedO_some {k many : Nat} {l : List ByteArray} {ns : List Int} (h1 : (l.take many).all isNameB = true) (h : allS numV (l.drop many) = some ns) : askedO k many l = some (.asked k (l.take many) ns) := by unfold askedO; rw [h, h1]
theorem Boxed.set3 {W : World} {B : Nat} {a b c : Value} {t : TypeId} (h : W.heap[B]? = some (.cells #[a, b, c] t (0, 0))) (i : Nat) (v : Value) : (W.setCell ⟨B, i, none⟩ v).heap[B]? = some (.cells (#[a, b, c].setIfInBounds i v) t (0, 0)) := by
  obtain ⟨hlt, hk⟩ := Array.getElem?_eq_some_iff.1 h
  show (W.heap.modify B _)[B]? = _
  rw [Array.getElem?_eq_getElem (by rw [Array.size_modify]; exact hlt), Array.getElem_modify_self, hk]
  simp
theorem own_other {w w' : World} {base : Nat} {e : TypeId} {size : Nat} {v : Value} {n : Nat} {xs : List Value} (h : w.ownsRow base e size v n xs) (hk : ∀ k, base ≤ k → w'.heap[k]? = w.heap[k]?) : w'.ownsRow base e size v n xs := by
  refine ⟨h.1, ?_⟩
  rcases h.2 with hn | ⟨g, cap, cur, hv, hbg, hg, hrest⟩
  · exact .inl hn
  · exact .inr ⟨g, cap, cur, hv, hbg, (hk g hbg).trans hg, hrest⟩
set_option maxHeartbeats 1000000 in
theorem about_text_no (b off n : Nat) (hn : n ≠ 1) (_hn2 : n ≤ 1000000) (w : World) :
    Calls Tryz.prog 90 #[.string textW, .slice (some ⟨b, off, none⟩) n n] w (GivesC w none) := by
  unfold textW
  have hx : ((n : Int) != 1) = true := by simp; omega
  go_enter Tryz.func90, Tryz.ntmps90
  go_wp2
  go_ret
  exact ⟨⟨_, rfl, rfl⟩, (Below.refl _ _).alloc (Nat.le_refl _) _⟩
set_option maxHeartbeats 1000000 in
theorem about_beat_no (b off n : Nat) (hn : n ≠ 1) (_hn2 : n ≤ 1000000) (w : World) :
    Calls Tryz.prog 90 #[.string beatW, .slice (some ⟨b, off, none⟩) n n] w (GivesC w none) := by
  unfold beatW
  have hx : ((n : Int) != 1) = true := by simp; omega
  go_enter Tryz.func90, Tryz.ntmps90
  go_wp2
  go_ret
  exact ⟨⟨_, rfl, rfl⟩, (Below.refl _ _).alloc (Nat.le_refl _) _⟩
set_option maxHeartbeats 1000000 in
theorem about_far_no (b off n : Nat) (hn : n ≠ 2) (_hn2 : n ≤ 1000000) (w : World) :
    Calls Tryz.prog 90 #[.string farW, .slice (some ⟨b, off, none⟩) n n] w (GivesC w none) := by
  unfold farW
  have hx : ((n : Int) != 2) = true := by simp; omega
  go_enter Tryz.func90, Tryz.ntmps90
  go_wp2
  go_ret
  exact ⟨⟨_, rfl, rfl⟩, (Below.refl _ _).alloc (Nat.le_refl _) _⟩
set_option maxHeartbeats 1000000 in
theorem about_drift_no (b off n : Nat) (hn : n ≠ 3) (_hn2 : n ≤ 1000000) (w : World) :
    Calls Tryz.prog 90 #[.string driftW, .slice (some ⟨b, off, none⟩) n n] w (GivesC w none) := by
  unfold driftW
  have hx : ((n : Int) != 3) = true := by simp; omega
  go_enter Tryz.func90, Tryz.ntmps90
  go_wp2
  go_ret
  exact ⟨⟨_, rfl, rfl⟩, (Below.refl _ _).alloc (Nat.le_refl _) _⟩
set_option maxRecDepth 100000 in
set_option maxHeartbeats 2000000 in
theorem about_text_ok (b off : Nat) (l : List ByteArray) (hn : l.length = 1) (hsz : ∀ x ∈ l, x.size ≤ 281474976710656) (w : World) (hr : RestAt w b off l) (hV : Vars w) :
    Calls Tryz.prog 90 #[.string textW, .slice (some ⟨b, off, none⟩) 1 1] w (GivesC w (askedO 0 1 l)) := by
  unfold textW
  have HR := Lib.hid hr
  have HV := Lib.hid hV
  have HN := Lib.hid hn
  have HNM := Lib.hid (fun W (h : Below w.heap.size w W) => names_any _ _ W ((hr.below h).take 1 (by omega) (by omega)))
  have HNU := Lib.hid (fun W (h : Below w.heap.size w W) => numbers_any (.slice (some ⟨b, off, none⟩) 0 0) (l.drop 1) (by rw [List.length_drop]; omega) (fun x hx => hsz x (List.mem_of_mem_drop hx)) W
    (by
      have hd := (hr.below h).drop 1
      have hld : (l.drop 1).length = 1 - 1 := by rw [List.length_drop, hn]
      first
      | (have hs := hd.strs (by omega); rw [hld] at hs; exact hs)
      | (rw [List.length_eq_zero_iff.1 hld]; exact strs_empty _ _ _ (by omega))) (hV.below h))
  rw [hn] at HNM
  clear hr hV hn hsz
  obtain ⟨O, hO0⟩ : ∃ O, O = askedO 0 1 l := ⟨_, rfl⟩
  have HOO := Lib.hid hO0
  rw [← hO0]
  clear hO0
  go_enter Tryz.func90, Tryz.ntmps90
  go_wp2_with fail
  have hb0 : Below w.heap.size w ((w.alloc (.cells #[.slice none 0 0, .slice none 0 0, .func (.func 116) #[] #[]] 185))) := (Below.refl _ _).alloc (Nat.le_refl _) _
  have hO := World.alloc_heap_new w (.cells #[.slice none 0 0, .slice none 0 0, .func (.func 116) #[] #[]] 185)
  refine (HNM.out _ hb0).mono ?_
  rintro e w1 ⟨rfl, hb1⟩
  have hO1 := (hb1.block _ (by simp)).trans hO
  have HB1 := Lib.hid (below_trans hb0 hb1)
  have hz1 : w.heap.size < w1.heap.size := by have := hb1.size; simp at this; omega
  clear hb0 hb1 hO
  obtain ⟨nv, hnv⟩ : ∃ nv, nv = pickV ((l.take 1).all isNameB) (.slice (some ⟨b, off, none⟩) 1 1) := ⟨_, rfl⟩
  have HNVV := Lib.hid hnv
  rw [← hnv]
  have hsh : ∃ a n c, nv = .slice a n c := by rw [hnv]; unfold pickV; split <;> exact ⟨_, _, _, rfl⟩
  clear hnv
  obtain ⟨na, nn, nc, rfl⟩ := hsh
  have c0 := heap_cell (j := 0) hO1 rfl
  have c1 := heap_cell (j := 1) hO1 rfl
  have f0 : w1.frozen? ⟨w.heap.size, 0, none⟩ = false := by simp [World.frozen?, hO1]
  have HO1 := Lib.hid hO1
  clear hO1
  obtain ⟨bn, hbn⟩ : ∃ bn, bn = (l.take 1).all isNameB := ⟨_, rfl⟩
  have HBN := Lib.hid hbn
  rw [← hbn]
  clear hbn
  go_wp2_with fail
  have hB2 := below_set_new (b := w.heap.size) (k := 0) (v := .slice na nn nc) HB1.out (Nat.le_refl _)
  refine (HNU.out _ hB2).mono ?_
  rintro e w2 ⟨hr2, hb2⟩
  have hO2 : w2.heap[w.heap.size]? = some (.cells #[.slice na nn nc, .slice none 0 0, .func (.func 116) #[] #[]] 185 (0, 0)) := (hb2.block _ (by simpa using hz1)).trans (by
    have := Boxed.set3 HO1.out 0 (.slice na nn nc)
    simpa using this)
  have c20 := heap_cell (j := 0) hO2 rfl
  have c21 := heap_cell (j := 1) hO2 rfl
  have c22 := heap_cell (j := 2) hO2 rfl
  have f20 : w2.frozen? ⟨w.heap.size, 1, none⟩ = false := by simp [World.frozen?, hO2]
  have HB2 := Lib.hid (hB2.trans (hb2.mono (by simp; omega)))
  have HB3 : Hid (∀ v, Below w.heap.size w (w2.setCell ⟨w.heap.size, 1, none⟩ v)) := Lib.hid (fun v => HB2.out.setCell (p := ⟨w.heap.size, 1, none⟩) (Nat.le_refl _) _)
  have hR : ∃ a n c, ∃ bb, e = .returned (.tuple #[.slice a n c, .bool bb]) ∧ Hid (bb = (allS numV (l.drop 1)).isSome ∧ ∀ ns, allS numV (l.drop 1) = some ns → ∀ u, IntsAt (w2.setCell ⟨w.heap.size, 1, none⟩ u) (.slice a n c) ns) := by
    cases hx : allS numV (l.drop 1) with
    | some ns =>
      rw [hx] at hr2
      obtain ⟨v, rfl, ho⟩ := hr2
      obtain ⟨a, c, rfl⟩ := own_shape ho
      have hl2 := allS_len _ _ _ hx
      rw [List.length_drop, HN.out] at hl2
      exact ⟨_, _, _, _, rfl, Lib.hid ⟨rfl, fun ns' h u => by cases h; exact ints_own (own_other ho (fun k hk => Below.heap_setCell _ _ _ _ (by simp only [World.size_setCell] at hk; show k ≠ w.heap.size; omega))) (by omega)⟩⟩
    | none => rw [hx] at hr2; exact ⟨_, _, _, _, hr2, Lib.hid ⟨rfl, fun ns' h u => by cases h⟩⟩
  obtain ⟨ra, rn, rc, rb, rfl, HRR⟩ := hR
  clear hr2 hB2 hb2 hO2 c0 c1 f0
  cases bn with
  | false =>
    go_wp2
    go_ret
    exact ⟨⟨_, rfl, by rw [HOO.out, askedO_no HBN.out.symm]; rfl⟩, HB3.out _⟩
  | true =>
    cases rb with
    | false =>
      go_wp2
      go_ret
      exact ⟨⟨_, rfl, by rw [HOO.out, askedO_none (by have := HRR.out.1; cases hx : allS numV (l.drop 1) with | none => rfl | some ns => rw [hx] at this; cases this)]; rfl⟩, HB3.out _⟩
    | true =>
      go_wp2
      go_ret
      have h1 := HRR.out
      cases hx : allS numV (l.drop 1) with
      | none => rw [hx] at h1; cases h1.1
      | some ns =>
        refine ⟨⟨_, rfl, ?_⟩, HB3.out _⟩
        rw [HOO.out, askedO_some HBN.out.symm hx]
        have h2 := HNVV.out
        rw [← HBN.out] at h2
        refine ⟨.slice na nn nc, .slice ra rn rc, rfl, ?_, h1.2 ns hx _⟩
        rw [h2]
        exact (HR.out.below (HB3.out _)).take 1 (by rw [HN.out]; omega) (by rw [HN.out]; omega) |> (fun h => by rw [HN.out] at h; exact h)
set_option maxRecDepth 100000 in
set_option maxHeartbeats 2000000 in
theorem about_beat_ok (b off : Nat) (l : List ByteArray) (hn : l.length = 1) (hsz : ∀ x ∈ l, x.size ≤ 281474976710656) (w : World) (hr : RestAt w b off l) (hV : Vars w) :
    Calls Tryz.prog 90 #[.string beatW, .slice (some ⟨b, off, none⟩) 1 1] w (GivesC w (askedO 1 1 l)) := by
  unfold beatW
  have HR := Lib.hid hr
  have HV := Lib.hid hV
  have HN := Lib.hid hn
  have HNM := Lib.hid (fun W (h : Below w.heap.size w W) => names_any _ _ W ((hr.below h).take 1 (by omega) (by omega)))
  have HNU := Lib.hid (fun W (h : Below w.heap.size w W) => numbers_any (.slice (some ⟨b, off, none⟩) 0 0) (l.drop 1) (by rw [List.length_drop]; omega) (fun x hx => hsz x (List.mem_of_mem_drop hx)) W
    (by
      have hd := (hr.below h).drop 1
      have hld : (l.drop 1).length = 1 - 1 := by rw [List.length_drop, hn]
      first
      | (have hs := hd.strs (by omega); rw [hld] at hs; exact hs)
      | (rw [List.length_eq_zero_iff.1 hld]; exact strs_empty _ _ _ (by omega))) (hV.below h))
  rw [hn] at HNM
  clear hr hV hn hsz
  obtain ⟨O, hO0⟩ : ∃ O, O = askedO 1 1 l := ⟨_, rfl⟩
  have HOO := Lib.hid hO0
  rw [← hO0]
  clear hO0
  go_enter Tryz.func90, Tryz.ntmps90
  go_wp2_with fail
  have hb0 : Below w.heap.size w ((w.alloc (.cells #[.slice none 0 0, .slice none 0 0, .func (.func 117) #[] #[]] 185))) := (Below.refl _ _).alloc (Nat.le_refl _) _
  have hO := World.alloc_heap_new w (.cells #[.slice none 0 0, .slice none 0 0, .func (.func 117) #[] #[]] 185)
  refine (HNM.out _ hb0).mono ?_
  rintro e w1 ⟨rfl, hb1⟩
  have hO1 := (hb1.block _ (by simp)).trans hO
  have HB1 := Lib.hid (below_trans hb0 hb1)
  have hz1 : w.heap.size < w1.heap.size := by have := hb1.size; simp at this; omega
  clear hb0 hb1 hO
  obtain ⟨nv, hnv⟩ : ∃ nv, nv = pickV ((l.take 1).all isNameB) (.slice (some ⟨b, off, none⟩) 1 1) := ⟨_, rfl⟩
  have HNVV := Lib.hid hnv
  rw [← hnv]
  have hsh : ∃ a n c, nv = .slice a n c := by rw [hnv]; unfold pickV; split <;> exact ⟨_, _, _, rfl⟩
  clear hnv
  obtain ⟨na, nn, nc, rfl⟩ := hsh
  have c0 := heap_cell (j := 0) hO1 rfl
  have c1 := heap_cell (j := 1) hO1 rfl
  have f0 : w1.frozen? ⟨w.heap.size, 0, none⟩ = false := by simp [World.frozen?, hO1]
  have HO1 := Lib.hid hO1
  clear hO1
  obtain ⟨bn, hbn⟩ : ∃ bn, bn = (l.take 1).all isNameB := ⟨_, rfl⟩
  have HBN := Lib.hid hbn
  rw [← hbn]
  clear hbn
  go_wp2_with fail
  have hB2 := below_set_new (b := w.heap.size) (k := 0) (v := .slice na nn nc) HB1.out (Nat.le_refl _)
  refine (HNU.out _ hB2).mono ?_
  rintro e w2 ⟨hr2, hb2⟩
  have hO2 : w2.heap[w.heap.size]? = some (.cells #[.slice na nn nc, .slice none 0 0, .func (.func 117) #[] #[]] 185 (0, 0)) := (hb2.block _ (by simpa using hz1)).trans (by
    have := Boxed.set3 HO1.out 0 (.slice na nn nc)
    simpa using this)
  have c20 := heap_cell (j := 0) hO2 rfl
  have c21 := heap_cell (j := 1) hO2 rfl
  have c22 := heap_cell (j := 2) hO2 rfl
  have f20 : w2.frozen? ⟨w.heap.size, 1, none⟩ = false := by simp [World.frozen?, hO2]
  have HB2 := Lib.hid (hB2.trans (hb2.mono (by simp; omega)))
  have HB3 : Hid (∀ v, Below w.heap.size w (w2.setCell ⟨w.heap.size, 1, none⟩ v)) := Lib.hid (fun v => HB2.out.setCell (p := ⟨w.heap.size, 1, none⟩) (Nat.le_refl _) _)
  have hR : ∃ a n c, ∃ bb, e = .returned (.tuple #[.slice a n c, .bool bb]) ∧ Hid (bb = (allS numV (l.drop 1)).isSome ∧ ∀ ns, allS numV (l.drop 1) = some ns → ∀ u, IntsAt (w2.setCell ⟨w.heap.size, 1, none⟩ u) (.slice a n c) ns) := by
    cases hx : allS numV (l.drop 1) with
    | some ns =>
      rw [hx] at hr2
      obtain ⟨v, rfl, ho⟩ := hr2
      obtain ⟨a, c, rfl⟩ := own_shape ho
      have hl2 := allS_len _ _ _ hx
      rw [List.length_drop, HN.out] at hl2
      exact ⟨_, _, _, _, rfl, Lib.hid ⟨rfl, fun ns' h u => by cases h; exact ints_own (own_other ho (fun k hk => Below.heap_setCell _ _ _ _ (by simp only [World.size_setCell] at hk; show k ≠ w.heap.size; omega))) (by omega)⟩⟩
    | none => rw [hx] at hr2; exact ⟨_, _, _, _, hr2, Lib.hid ⟨rfl, fun ns' h u => by cases h⟩⟩
  obtain ⟨ra, rn, rc, rb, rfl, HRR⟩ := hR
  clear hr2 hB2 hb2 hO2 c0 c1 f0
  cases bn with
  | false =>
    go_wp2
    go_ret
    exact ⟨⟨_, rfl, by rw [HOO.out, askedO_no HBN.out.symm]; rfl⟩, HB3.out _⟩
  | true =>
    cases rb with
    | false =>
      go_wp2
      go_ret
      exact ⟨⟨_, rfl, by rw [HOO.out, askedO_none (by have := HRR.out.1; cases hx : allS numV (l.drop 1) with | none => rfl | some ns => rw [hx] at this; cases this)]; rfl⟩, HB3.out _⟩
    | true =>
      go_wp2
      go_ret
      have h1 := HRR.out
      cases hx : allS numV (l.drop 1) with
      | none => rw [hx] at h1; cases h1.1
      | some ns =>
        refine ⟨⟨_, rfl, ?_⟩, HB3.out _⟩
        rw [HOO.out, askedO_some HBN.out.symm hx]
        have h2 := HNVV.out
        rw [← HBN.out] at h2
        refine ⟨.slice na nn nc, .slice ra rn rc, rfl, ?_, h1.2 ns hx _⟩
        rw [h2]
        exact (HR.out.below (HB3.out _)).take 1 (by rw [HN.out]; omega) (by rw [HN.out]; omega) |> (fun h => by rw [HN.out] at h; exact h)
set_option maxRecDepth 100000 in
set_option maxHeartbeats 2000000 in
theorem about_far_ok (b off : Nat) (l : List ByteArray) (hn : l.length = 2) (hsz : ∀ x ∈ l, x.size ≤ 281474976710656) (w : World) (hr : RestAt w b off l) (hV : Vars w) :
    Calls Tryz.prog 90 #[.string farW, .slice (some ⟨b, off, none⟩) 2 2] w (GivesC w (askedO 2 2 l)) := by
  unfold farW
  have HR := Lib.hid hr
  have HV := Lib.hid hV
  have HN := Lib.hid hn
  have HNM := Lib.hid (fun W (h : Below w.heap.size w W) => names_any _ _ W ((hr.below h).take 2 (by omega) (by omega)))
  have HNU := Lib.hid (fun W (h : Below w.heap.size w W) => numbers_any (.slice (some ⟨b, off, none⟩) 0 0) (l.drop 2) (by rw [List.length_drop]; omega) (fun x hx => hsz x (List.mem_of_mem_drop hx)) W
    (by
      have hd := (hr.below h).drop 2
      have hld : (l.drop 2).length = 2 - 2 := by rw [List.length_drop, hn]
      first
      | (have hs := hd.strs (by omega); rw [hld] at hs; exact hs)
      | (rw [List.length_eq_zero_iff.1 hld]; exact strs_empty _ _ _ (by omega))) (hV.below h))
  rw [hn] at HNM
  clear hr hV hn hsz
  obtain ⟨O, hO0⟩ : ∃ O, O = askedO 2 2 l := ⟨_, rfl⟩
  have HOO := Lib.hid hO0
  rw [← hO0]
  clear hO0
  go_enter Tryz.func90, Tryz.ntmps90
  go_wp2_with fail
  have hb0 : Below w.heap.size w ((w.alloc (.cells #[.slice none 0 0, .slice none 0 0, .func (.func 118) #[] #[]] 185))) := (Below.refl _ _).alloc (Nat.le_refl _) _
  have hO := World.alloc_heap_new w (.cells #[.slice none 0 0, .slice none 0 0, .func (.func 118) #[] #[]] 185)
  refine (HNM.out _ hb0).mono ?_
  rintro e w1 ⟨rfl, hb1⟩
  have hO1 := (hb1.block _ (by simp)).trans hO
  have HB1 := Lib.hid (below_trans hb0 hb1)
  have hz1 : w.heap.size < w1.heap.size := by have := hb1.size; simp at this; omega
  clear hb0 hb1 hO
  obtain ⟨nv, hnv⟩ : ∃ nv, nv = pickV ((l.take 2).all isNameB) (.slice (some ⟨b, off, none⟩) 2 2) := ⟨_, rfl⟩
  have HNVV := Lib.hid hnv
  rw [← hnv]
  have hsh : ∃ a n c, nv = .slice a n c := by rw [hnv]; unfold pickV; split <;> exact ⟨_, _, _, rfl⟩
  clear hnv
  obtain ⟨na, nn, nc, rfl⟩ := hsh
  have c0 := heap_cell (j := 0) hO1 rfl
  have c1 := heap_cell (j := 1) hO1 rfl
  have f0 : w1.frozen? ⟨w.heap.size, 0, none⟩ = false := by simp [World.frozen?, hO1]
  have HO1 := Lib.hid hO1
  clear hO1
  obtain ⟨bn, hbn⟩ : ∃ bn, bn = (l.take 2).all isNameB := ⟨_, rfl⟩
  have HBN := Lib.hid hbn
  rw [← hbn]
  clear hbn
  go_wp2_with fail
  have hB2 := below_set_new (b := w.heap.size) (k := 0) (v := .slice na nn nc) HB1.out (Nat.le_refl _)
  refine (HNU.out _ hB2).mono ?_
  rintro e w2 ⟨hr2, hb2⟩
  have hO2 : w2.heap[w.heap.size]? = some (.cells #[.slice na nn nc, .slice none 0 0, .func (.func 118) #[] #[]] 185 (0, 0)) := (hb2.block _ (by simpa using hz1)).trans (by
    have := Boxed.set3 HO1.out 0 (.slice na nn nc)
    simpa using this)
  have c20 := heap_cell (j := 0) hO2 rfl
  have c21 := heap_cell (j := 1) hO2 rfl
  have c22 := heap_cell (j := 2) hO2 rfl
  have f20 : w2.frozen? ⟨w.heap.size, 1, none⟩ = false := by simp [World.frozen?, hO2]
  have HB2 := Lib.hid (hB2.trans (hb2.mono (by simp; omega)))
  have HB3 : Hid (∀ v, Below w.heap.size w (w2.setCell ⟨w.heap.size, 1, none⟩ v)) := Lib.hid (fun v => HB2.out.setCell (p := ⟨w.heap.size, 1, none⟩) (Nat.le_refl _) _)
  have hR : ∃ a n c, ∃ bb, e = .returned (.tuple #[.slice a n c, .bool bb]) ∧ Hid (bb = (allS numV (l.drop 2)).isSome ∧ ∀ ns, allS numV (l.drop 2) = some ns → ∀ u, IntsAt (w2.setCell ⟨w.heap.size, 1, none⟩ u) (.slice a n c) ns) := by
    cases hx : allS numV (l.drop 2) with
    | some ns =>
      rw [hx] at hr2
      obtain ⟨v, rfl, ho⟩ := hr2
      obtain ⟨a, c, rfl⟩ := own_shape ho
      have hl2 := allS_len _ _ _ hx
      rw [List.length_drop, HN.out] at hl2
      exact ⟨_, _, _, _, rfl, Lib.hid ⟨rfl, fun ns' h u => by cases h; exact ints_own (own_other ho (fun k hk => Below.heap_setCell _ _ _ _ (by simp only [World.size_setCell] at hk; show k ≠ w.heap.size; omega))) (by omega)⟩⟩
    | none => rw [hx] at hr2; exact ⟨_, _, _, _, hr2, Lib.hid ⟨rfl, fun ns' h u => by cases h⟩⟩
  obtain ⟨ra, rn, rc, rb, rfl, HRR⟩ := hR
  clear hr2 hB2 hb2 hO2 c0 c1 f0
  cases bn with
  | false =>
    go_wp2
    go_ret
    exact ⟨⟨_, rfl, by rw [HOO.out, askedO_no HBN.out.symm]; rfl⟩, HB3.out _⟩
  | true =>
    cases rb with
    | false =>
      go_wp2
      go_ret
      exact ⟨⟨_, rfl, by rw [HOO.out, askedO_none (by have := HRR.out.1; cases hx : allS numV (l.drop 2) with | none => rfl | some ns => rw [hx] at this; cases this)]; rfl⟩, HB3.out _⟩
    | true =>
      go_wp2
      go_ret
      have h1 := HRR.out
      cases hx : allS numV (l.drop 2) with
      | none => rw [hx] at h1; cases h1.1
      | some ns =>
        refine ⟨⟨_, rfl, ?_⟩, HB3.out _⟩
        rw [HOO.out, askedO_some HBN.out.symm hx]
        have h2 := HNVV.out
        rw [← HBN.out] at h2
        refine ⟨.slice na nn nc, .slice ra rn rc, rfl, ?_, h1.2 ns hx _⟩
        rw [h2]
        exact (HR.out.below (HB3.out _)).take 2 (by rw [HN.out]; omega) (by rw [HN.out]; omega) |> (fun h => by rw [HN.out] at h; exact h)
set_option maxRecDepth 100000 in
set_option maxHeartbeats 2000000 in
theorem about_drift_ok (b off : Nat) (l : List ByteArray) (hn : l.length = 3) (hsz : ∀ x ∈ l, x.size ≤ 281474976710656) (w : World) (hr : RestAt w b off l) (hV : Vars w) :
    Calls Tryz.prog 90 #[.string driftW, .slice (some ⟨b, off, none⟩) 3 3] w (GivesC w (askedO 3 1 l)) := by
  unfold driftW
  have HR := Lib.hid hr
  have HV := Lib.hid hV
  have HN := Lib.hid hn
  have HNM := Lib.hid (fun W (h : Below w.heap.size w W) => names_any _ _ W ((hr.below h).take 1 (by omega) (by omega)))
  have HNU := Lib.hid (fun W (h : Below w.heap.size w W) => numbers_any (.slice (some ⟨b, off + 1, none⟩) 2 2) (l.drop 1) (by rw [List.length_drop]; omega) (fun x hx => hsz x (List.mem_of_mem_drop hx)) W
    (by
      have hd := (hr.below h).drop 1
      have hld : (l.drop 1).length = 3 - 1 := by rw [List.length_drop, hn]
      first
      | (have hs := hd.strs (by omega); rw [hld] at hs; exact hs)
      | (rw [List.length_eq_zero_iff.1 hld]; exact strs_empty _ _ _ (by omega))) (hV.below h))
  rw [hn] at HNM
  clear hr hV hn hsz
  obtain ⟨O, hO0⟩ : ∃ O, O = askedO 3 1 l := ⟨_, rfl⟩
  have HOO := Lib.hid hO0
  rw [← hO0]
  clear hO0
  go_enter Tryz.func90, Tryz.ntmps90
  go_wp2_with fail
  have hb0 : Below w.heap.size w ((w.alloc (.cells #[.slice none 0 0, .slice none 0 0, .func (.func 119) #[] #[]] 185))) := (Below.refl _ _).alloc (Nat.le_refl _) _
  have hO := World.alloc_heap_new w (.cells #[.slice none 0 0, .slice none 0 0, .func (.func 119) #[] #[]] 185)
  refine (HNM.out _ hb0).mono ?_
  rintro e w1 ⟨rfl, hb1⟩
  have hO1 := (hb1.block _ (by simp)).trans hO
  have HB1 := Lib.hid (below_trans hb0 hb1)
  have hz1 : w.heap.size < w1.heap.size := by have := hb1.size; simp at this; omega
  clear hb0 hb1 hO
  obtain ⟨nv, hnv⟩ : ∃ nv, nv = pickV ((l.take 1).all isNameB) (.slice (some ⟨b, off, none⟩) 1 3) := ⟨_, rfl⟩
  have HNVV := Lib.hid hnv
  rw [← hnv]
  have hsh : ∃ a n c, nv = .slice a n c := by rw [hnv]; unfold pickV; split <;> exact ⟨_, _, _, rfl⟩
  clear hnv
  obtain ⟨na, nn, nc, rfl⟩ := hsh
  have c0 := heap_cell (j := 0) hO1 rfl
  have c1 := heap_cell (j := 1) hO1 rfl
  have f0 : w1.frozen? ⟨w.heap.size, 0, none⟩ = false := by simp [World.frozen?, hO1]
  have HO1 := Lib.hid hO1
  clear hO1
  obtain ⟨bn, hbn⟩ : ∃ bn, bn = (l.take 1).all isNameB := ⟨_, rfl⟩
  have HBN := Lib.hid hbn
  rw [← hbn]
  clear hbn
  go_wp2_with fail
  have hB2 := below_set_new (b := w.heap.size) (k := 0) (v := .slice na nn nc) HB1.out (Nat.le_refl _)
  refine (HNU.out _ hB2).mono ?_
  rintro e w2 ⟨hr2, hb2⟩
  have hO2 : w2.heap[w.heap.size]? = some (.cells #[.slice na nn nc, .slice none 0 0, .func (.func 119) #[] #[]] 185 (0, 0)) := (hb2.block _ (by simpa using hz1)).trans (by
    have := Boxed.set3 HO1.out 0 (.slice na nn nc)
    simpa using this)
  have c20 := heap_cell (j := 0) hO2 rfl
  have c21 := heap_cell (j := 1) hO2 rfl
  have c22 := heap_cell (j := 2) hO2 rfl
  have f20 : w2.frozen? ⟨w.heap.size, 1, none⟩ = false := by simp [World.frozen?, hO2]
  have HB2 := Lib.hid (hB2.trans (hb2.mono (by simp; omega)))
  have HB3 : Hid (∀ v, Below w.heap.size w (w2.setCell ⟨w.heap.size, 1, none⟩ v)) := Lib.hid (fun v => HB2.out.setCell (p := ⟨w.heap.size, 1, none⟩) (Nat.le_refl _) _)
  have hR : ∃ a n c, ∃ bb, e = .returned (.tuple #[.slice a n c, .bool bb]) ∧ Hid (bb = (allS numV (l.drop 1)).isSome ∧ ∀ ns, allS numV (l.drop 1) = some ns → ∀ u, IntsAt (w2.setCell ⟨w.heap.size, 1, none⟩ u) (.slice a n c) ns) := by
    cases hx : allS numV (l.drop 1) with
    | some ns =>
      rw [hx] at hr2
      obtain ⟨v, rfl, ho⟩ := hr2
      obtain ⟨a, c, rfl⟩ := own_shape ho
      have hl2 := allS_len _ _ _ hx
      rw [List.length_drop, HN.out] at hl2
      exact ⟨_, _, _, _, rfl, Lib.hid ⟨rfl, fun ns' h u => by cases h; exact ints_own (own_other ho (fun k hk => Below.heap_setCell _ _ _ _ (by simp only [World.size_setCell] at hk; show k ≠ w.heap.size; omega))) (by omega)⟩⟩
    | none => rw [hx] at hr2; exact ⟨_, _, _, _, hr2, Lib.hid ⟨rfl, fun ns' h u => by cases h⟩⟩
  obtain ⟨ra, rn, rc, rb, rfl, HRR⟩ := hR
  clear hr2 hB2 hb2 hO2 c0 c1 f0
  cases bn with
  | false =>
    go_wp2
    go_ret
    exact ⟨⟨_, rfl, by rw [HOO.out, askedO_no HBN.out.symm]; rfl⟩, HB3.out _⟩
  | true =>
    cases rb with
    | false =>
      go_wp2
      go_ret
      exact ⟨⟨_, rfl, by rw [HOO.out, askedO_none (by have := HRR.out.1; cases hx : allS numV (l.drop 1) with | none => rfl | some ns => rw [hx] at this; cases this)]; rfl⟩, HB3.out _⟩
    | true =>
      go_wp2
      go_ret
      have h1 := HRR.out
      cases hx : allS numV (l.drop 1) with
      | none => rw [hx] at h1; cases h1.1
      | some ns =>
        refine ⟨⟨_, rfl, ?_⟩, HB3.out _⟩
        rw [HOO.out, askedO_some HBN.out.symm hx]
        have h2 := HNVV.out
        rw [← HBN.out] at h2
        refine ⟨.slice na nn nc, .slice ra rn rc, rfl, ?_, h1.2 ns hx _⟩
        rw [h2]
        exact (HR.out.below (HB3.out _)).take 1 (by rw [HN.out]; omega) (by rw [HN.out]; omega) |> (fun h => by rw [HN.out] at h; exact h)
theorem kindB_text : kindB textW = some (0, 1, 0) := rfl
theorem kindB_beat : kindB beatW = some (1, 1, 0) := rfl
theorem kindB_far : kindB farW = some (2, 2, 0) := rfl
theorem kindB_drift : kindB driftW = some (3, 1, 2) := rfl
theorem about_any (x : ByteArray) (b off : Nat) (l : List ByteArray) (hl : l.length ≤ 1000000) (hsz : ∀ y ∈ l, y.size ≤ 281474976710656) (w : World) (hr : RestAt w b off l) (hV : Vars w) :
    Calls Tryz.prog 90 #[.string x, .slice (some ⟨b, off, none⟩) l.length l.length] w (GivesC w (aboutB x l)) := by
  unfold aboutB
  by_cases h1 : x = textW
  · subst h1
    rw [kindB_text]
    by_cases hn : l.length = 1
    · simp only [hn, ne_eq, not_true, if_false]
      exact about_text_ok b off l hn hsz w hr hV
    · simp only [hn, ne_eq, not_false_eq_true, if_true]
      exact about_text_no b off _ hn hl w
  · by_cases h2 : x = beatW
    · subst h2
      rw [kindB_beat]
      by_cases hn : l.length = 1
      · simp only [hn, ne_eq, not_true, if_false]
        exact about_beat_ok b off l hn hsz w hr hV
      · simp only [hn, ne_eq, not_false_eq_true, if_true]
        exact about_beat_no b off _ hn hl w
    · by_cases h3 : x = farW
      · subst h3
        rw [kindB_far]
        by_cases hn : l.length = 2
        · simp only [hn, ne_eq, not_true, if_false]
          exact about_far_ok b off l hn hsz w hr hV
        · simp only [hn, ne_eq, not_false_eq_true, if_true]
          exact about_far_no b off _ hn hl w
      · by_cases h4 : x = driftW
        · subst h4
          rw [kindB_drift]
          by_cases hn : l.length = 3
          · simp only [hn, ne_eq, not_true, if_false]
            exact about_drift_ok b off l hn hsz w hr hV
          · simp only [hn, ne_eq, not_false_eq_true, if_true]
            exact about_drift_no b off _ hn hl w
        · have hk : kindB x = none := by unfold kindB; rw [if_neg h1, if_neg h2, if_neg h3, if_neg h4]
          rw [hk]
          exact about_none x _ w hk
end Go.Proofs.YtdfkaijeppdhaaaGreatDoor

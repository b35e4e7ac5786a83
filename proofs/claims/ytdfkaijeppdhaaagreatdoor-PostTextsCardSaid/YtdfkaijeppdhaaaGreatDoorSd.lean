/- Contract of the reference: deed (Post). -/
import Derived.Test.YtdfkaijeppdhaaaGreatDoorSc
import Derived.Deep.RegionLaw
namespace Go.Proofs.YtdfkaijeppdhaaaGreatDoor
open Go.RowKit Go.Shelf

theorem bsB_emp (l : List UInt8) : bsB l = emp ↔ l = [] := ⟨fun h => bsB_inj (m := []) h, fun h => by rw [h]; rfl⟩
/-- What the calls of a deed hand back. -/
structure DeedC (line V R N A : ByteArray) (q1 more : Bool) : Prop where
  c1 : ∀ W, Calls Tryz.prog 67 #[.string line] W (Cut3 V R q1 W)
  c2 : ∀ W, Calls Tryz.prog 67 #[.string R] W (Cut3 N A more W)
  hN : N.size ≤ 4000000
  hA : A.size ≤ 4000000
  is : deedR line = if isLineB line = false ∨ isNameB N = false then none
    else if V = putW then (if A = emp then none else some (.put N A))
    else if V = dropW then (if more then none else some (.drop N))
    else if V = addW then (match numR A.data.toList with
      | some n => some (.add N n)
      | none => none)
    else none
theorem deed_calls (line : ByteArray) (hl : line.size ≤ 4000000) : ∃ V R N A q1 more, DeedC line V R N A q1 more := by
  have h1 := cutR_len line.data.toList
  have h2 := cutR_len (cutR line.data.toList).2.1
  have hs := ba_size line
  refine ⟨bsB (cutR line.data.toList).1, bsB (cutR line.data.toList).2.1, bsB (cutR (cutR line.data.toList).2.1).1, bsB (cutR (cutR line.data.toList).2.1).2.1, _, _, fun W => rcut_any line W (by omega), fun W => rcut_list _ W (by omega), by rw [bsB_size]; omega, by rw [bsB_size]; omega, ?_⟩
  unfold deedR
  simp only
  by_cases e1 : isLineB line = false ∨ isNameB (bsB (cutR (cutR line.data.toList).2.1).1) = false
  · rw [if_pos e1, if_pos e1]
  · rw [if_neg e1, if_neg e1]
    by_cases e2 : bsB (cutR line.data.toList).1 = putW
    · rw [if_pos e2, if_pos e2]
      by_cases e3 : (cutR (cutR line.data.toList).2.1).2.1 = []
      · rw [if_pos e3, if_pos ((bsB_emp _).2 e3)]
      · rw [if_neg e3, if_neg (fun h => e3 ((bsB_emp _).1 h))]
    · rw [if_neg e2, if_neg e2]; simp only [bsB_list]; rfl

section
variable {w w2 : World} {S B : Nat} {u v t : Value} {ns ts : List ByteArray} {ss : List Int}
theorem Says3.setText {g cap : Nat} (h : Says3 w S B u (.slice (some ⟨g, 0, none⟩) ts.length cap) t ns ts ss) (i : Nat) (x : ByteArray) :
    Says3 (w.setCell ⟨g, i, none⟩ (.string x)) S B u (.slice (some ⟨g, 0, none⟩) ts.length cap) t ns (ts.set i x) ss ∧ TS S B w (w.setCell ⟨g, i, none⟩ (.string x)) := by
  have hgS := (own_high h.texts (k := g) rfl).1
  have hlow := h.low
  have hset : ∀ k, k ≠ g → (w.setCell ⟨g, i, none⟩ (.string x)).heap[k]? = w.heap[k]? := fun k hk => Below.heap_setCell _ _ _ k hk
  refine ⟨⟨(hset S (by omega)).trans h.cells, own_keep h.names fun k hk => hset k fun e => h.apart k hk (by rw [e]; rfl), ?_, own_keep h.sums fun k hk => hset k fun e => own_types h.sums h.texts (Ne.symm str_ne_int) hk (by rw [e]; rfl), h.apart, h.low, by rw [World.size_setCell]; exact h.size⟩, (TS.refl S B w).set2 hgS _ _⟩
  rw [List.map_set, List.length_set]
  exact (h.texts.stored i (.string x)).1
theorem Says3.setSum {g cap : Nat} (h : Says3 w S B u v (.slice (some ⟨g, 0, none⟩) ss.length cap) ns ts ss) (i : Nat) (x : Int) :
    Says3 (w.setCell ⟨g, i, none⟩ (.int .i64 x)) S B u v (.slice (some ⟨g, 0, none⟩) ss.length cap) ns ts (ss.set i x) ∧ TS S B w (w.setCell ⟨g, i, none⟩ (.int .i64 x)) := by
  have hgS := (own_high h.sums (k := g) rfl).1
  have hlow := h.low
  have hset : ∀ k, k ≠ g → (w.setCell ⟨g, i, none⟩ (.int .i64 x)).heap[k]? = w.heap[k]? := fun k hk => Below.heap_setCell _ _ _ k hk
  refine ⟨⟨(hset S (by omega)).trans h.cells, own_keep h.names fun k hk => hset k fun e => own_types h.names h.sums str_ne_int hk (by rw [e]; rfl), own_keep h.texts fun k hk => hset k fun e => own_types h.texts h.sums str_ne_int hk (by rw [e]; rfl), ?_, h.apart, h.low, by rw [World.size_setCell]; exact h.size⟩, (TS.refl S B w).set2 hgS _ _⟩
  rw [List.map_set, List.length_set]
  exact (h.sums.stored i (.int .i64 x)).1
end
theorem modify_map {β : Type} (l : List Rw) (i : Nat) (f : Rw → Rw) (p : Rw → β) (hf : ∀ x, p (f x) = p x) : (l.modify i f).map p = l.map p := by
  apply List.ext_getElem (by simp)
  intro j h1 h2
  simp only [List.getElem_map, List.getElem_modify]
  split
  · rw [hf]
  · rfl
theorem modify_set {β : Type} (l : List Rw) (i : Nat) (f : Rw → Rw) (p : Rw → β) (x : β) (hf : ∀ y, p (f y) = x) : (l.modify i f).map p = (l.map p).set i x := by
  apply List.ext_getElem (by simp)
  intro j h1 h2
  simp only [List.getElem_map, List.getElem_modify, List.getElem_set]
  split
  · rw [hf]
  · rfl
/-- A row's cell: the text, the sum of the name. -/
structure NameAt (w : World) (S B : Nat) (l : List Rw) (i : Nat) (n : ByteArray) (g2 c2 g3 c3 len : Nat) (u : Value) : Prop where
  says : Says3 w S B u (.slice (some ⟨g2, 0, none⟩) len c2) (.slice (some ⟨g3, 0, none⟩) len c3) (l.map fun x => x.1) (l.map fun x => x.2.1) (l.map fun x => x.2.2)
  lt : i < len
  len : len = l.length
  text : w.cell? ⟨g2, i, none⟩ = some (.string (rsTxt l n))
  sum : w.cell? ⟨g3, i, none⟩ = some (.int .i64 (rsSum l n))
  ft : ∀ j, w.frozen? ⟨g2, j, none⟩ = false
  fs : ∀ j, w.frozen? ⟨g3, j, none⟩ = false
theorem name_at {w : World} {S B : Nat} {l : List Rw} (h : SaysAt w S B l) {n : ByteArray} (hi : rsAt n l < l.length) : ∃ g2 c2 g3 c3 len u, NameAt w S B l (rsAt n l) n g2 c2 g3 c3 len u := by
  obtain ⟨u, v, t, h3⟩ := h
  obtain ⟨g2, c2, rfl, _⟩ := h3.texts.form (by simp; omega)
  obtain ⟨g3, c3, rfl, _⟩ := h3.sums.form (by simp; omega)
  have e2 : (l.map fun x => x.2.1).length = l.length := by simp
  have e3 : (l.map fun x => x.2.2).length = l.length := by simp
  have ht := h3.texts.cellAt (rsAt n l) (by rw [e2]; omega)
  have hs := h3.sums.cellAt (rsAt n l) (by rw [e3]; omega)
  have hg : rsGet l n = l[rsAt n l] := by unfold rsGet; rw [List.getD_eq_getElem?_getD, List.getElem?_eq_getElem hi]; rfl
  refine ⟨g2, c2, g3, c3, l.length, u, ⟨?_, hi, rfl, ?_, ?_, fun j => h3.texts.frozenAt j, fun j => h3.sums.frozenAt j⟩⟩
  · rw [e2, e3] at h3; exact h3
  · rw [ht, rsTxt, hg]; simp [hi]
  · rw [hs, rsSum, hg]; simp [hi]
theorem NameAt.putT {w : World} {S B : Nat} {l : List Rw} {i : Nat} {n : ByteArray} {g2 c2 g3 c3 len : Nat} {u : Value} (h : NameAt w S B l i n g2 c2 g3 c3 len u) (x : ByteArray) : SaysAt (w.setCell ⟨g2, i, none⟩ (.string x)) S B (rsPutT l i x) ∧ TS S B w (w.setCell ⟨g2, i, none⟩ (.string x)) := by
  have h9 := h.says
  rw [show (Value.slice (some ⟨g2, 0, none⟩) len c2) = .slice (some ⟨g2, 0, none⟩) (l.map fun x => x.2.1).length c2 by rw [h.len]; simp] at h9
  obtain ⟨h1, h2⟩ := h9.setText i x
  refine ⟨⟨u, .slice (some ⟨g2, 0, none⟩) (l.map fun x => x.2.1).length c2, .slice (some ⟨g3, 0, none⟩) len c3, ?_⟩, h2⟩
  have p1 := modify_map l i (fun y => (y.1, x, y.2.2)) (fun y => y.1) (fun _ => rfl)
  have p2 := modify_set l i (fun y => (y.1, x, y.2.2)) (fun y => y.2.1) x (fun _ => rfl)
  have p3 := modify_map l i (fun y => (y.1, x, y.2.2)) (fun y => y.2.2) (fun _ => rfl)
  unfold rsPutT
  rw [p1, p2, p3]
  exact h1
theorem NameAt.putS {w : World} {S B : Nat} {l : List Rw} {i : Nat} {n : ByteArray} {g2 c2 g3 c3 len : Nat} {u : Value} (h : NameAt w S B l i n g2 c2 g3 c3 len u) (x : Int) : SaysAt (w.setCell ⟨g3, i, none⟩ (.int .i64 x)) S B (rsPutS l i x) ∧ TS S B w (w.setCell ⟨g3, i, none⟩ (.int .i64 x)) := by
  have h9 := h.says
  rw [show (Value.slice (some ⟨g3, 0, none⟩) len c3) = .slice (some ⟨g3, 0, none⟩) (l.map fun x => x.2.2).length c3 by rw [h.len]; simp] at h9
  obtain ⟨h1, h2⟩ := h9.setSum i x
  refine ⟨⟨u, .slice (some ⟨g2, 0, none⟩) len c2, .slice (some ⟨g3, 0, none⟩) (l.map fun x => x.2.2).length c3, ?_⟩, h2⟩
  have p1 := modify_map l i (fun y => (y.1, y.2.1, x)) (fun y => y.1) (fun _ => rfl)
  have p2 := modify_map l i (fun y => (y.1, y.2.1, x)) (fun y => y.2.1) (fun _ => rfl)
  have p3 := modify_set l i (fun y => (y.1, y.2.1, x)) (fun y => y.2.2) x (fun _ => rfl)
  unfold rsPutS
  rw [p1, p2, p3]
  exact h1
theorem rsTxt_mk (l : List Rw) (n m : ByteArray) : rsTxt (rsMk l n) m = rsTxt l m := by unfold rsTxt; rw [rsGet_mk]
theorem rsSum_mk (l : List Rw) (n m : ByteArray) : rsSum (rsMk l n) m = rsSum l m := by unfold rsSum; rw [rsGet_mk]
/-- What at leaves, told for the use of the place. -/
def AtN (S B : Nat) (l : List Rw) (n : ByteArray) (w : World) (e : Ending) (w' : World) : Prop := ∃ g2 c2 g3 c3 len u, e = .returned (.int .i64 (rsAt n l : Nat)) ∧ NameAt w' S B (rsMk l n) (rsAt n l) n g2 c2 g3 c3 len u ∧ TS S B w w'
theorem rat_name (S B : Nat) (l : List Rw) (n : ByteArray) (w : World) (h : SaysAt w S B l) (hl : l.length ≤ 1000) : Calls Tryz.prog 74 #[.pointer (some ⟨S, 0, none⟩), .string n] w (AtN S B l n w) := by
  refine (rat_any S B l n w h hl).mono ?_
  rintro e w' ⟨rfl, h2, hb⟩
  obtain ⟨h3, h4⟩ := rsMk_at l n
  obtain ⟨g2, c2, g3, c3, len, u, h5⟩ := name_at h2 (n := n) (by rw [h3]; exact h4)
  rw [h3] at h5
  exact ⟨g2, c2, g3, c3, len, u, rfl, h5, hb⟩
theorem SaysAt.below {w w' : World} {S B : Nat} {l : List Rw} (h : SaysAt w S B l) (hb : Below w.heap.size w w') : SaysAt w' S B l := by
  obtain ⟨u, v, t, h3⟩ := h
  exact ⟨u, v, t, (hb.block _ h3.lt).trans h3.cells, own_below h3.names hb, own_below h3.texts hb, own_below h3.sums hb, h3.apart, h3.low, Nat.le_trans h3.size hb.size⟩
theorem SaysAt.lt {w : World} {S B : Nat} {l : List Rw} (h : SaysAt w S B l) : S < w.heap.size := by obtain ⟨u, v, t, h3⟩ := h; exact h3.lt
theorem put_is : (putW.toList == ([112, 117, 116] : List UInt8)) = true := by kernel_rfl
theorem drop_put : (dropW.toList == ([112, 117, 116] : List UInt8)) = false := by kernel_rfl
theorem drop_is : (dropW.toList == ([100, 114, 111, 112] : List UInt8)) = true := by kernel_rfl
theorem add_put : (addW.toList == ([112, 117, 116] : List UInt8)) = false := by kernel_rfl
theorem add_drop : (addW.toList == ([100, 114, 111, 112] : List UInt8)) = false := by kernel_rfl
theorem add_is : (addW.toList == ([97, 100, 100] : List UInt8)) = true := by kernel_rfl
theorem emp_is : (emp.toList == ([] : List UInt8)) = true := by kernel_rfl
theorem NameAt.below {w w' : World} {S B : Nat} {l : List Rw} {i : Nat} {n : ByteArray} {g2 c2 g3 c3 len : Nat} {u : Value} (h : NameAt w S B l i n g2 c2 g3 c3 len u) (hb : Below w.heap.size w w') : NameAt w' S B l i n g2 c2 g3 c3 len u := by
  have h3 : Says3 w' S B u (.slice (some ⟨g2, 0, none⟩) len c2) (.slice (some ⟨g3, 0, none⟩) len c3) (l.map fun x => x.1) (l.map fun x => x.2.1) (l.map fun x => x.2.2) :=
    ⟨(hb.block _ h.says.lt).trans h.says.cells, own_below h.says.names hb, own_below h.says.texts hb, own_below h.says.sums hb, h.says.apart, h.says.low, Nat.le_trans h.says.size hb.size⟩
  have e2 : (l.map fun x => x.2.1).length = len := by rw [h.len]; simp
  have e3 : (l.map fun x => x.2.2).length = len := by rw [h.len]; simp
  have ht := h3.texts
  have hs := h3.sums
  rw [e2] at ht
  rw [e3] at hs
  exact ⟨h3, h.lt, h.len, keep_cell hb h.text, keep_cell hb h.sum, fun j => ht.frozenAt j, fun j => hs.frozenAt j⟩
def DeedPost (S B : Nat) (l : List Rw) (line : ByteArray) (w : World) (e : Ending) (w' : World) : Prop :=
  e = .returned (.tuple #[.string (deedV l line).1.1, .int .i64 (deedV l line).1.2]) ∧ SaysAt w' S B (deedV l line).2 ∧ TS S B w w'
set_option maxRecDepth 100000 in
set_option maxHeartbeats 8000000 in
theorem rdeed_any (S B : Nat) (l : List Rw) (line : ByteArray) (hs : line.size ≤ 1000000) (w : World) (h : SaysAt w S B l) (hl : l.length ≤ 900) (hsum : ∀ m, -100000000 ≤ rsSum l m ∧ rsSum l m ≤ 100000000) :
    Calls Tryz.prog 60 #[.pointer (some ⟨S, 0, none⟩), .string line] w (DeedPost S B l line w) := by
  obtain ⟨V, R, N, A, q1, more, hd⟩ := deed_calls line (by omega)
  have HDC := Lib.hid hd
  have HS := Lib.hid h
  have hNs := hd.hN
  have hAs := hd.hA
  have HD := Lib.hid hd.is
  clear hd h
  unfold DeedPost
  have HVX : Hid (deedV l line = match deedR line with
    | some (.put n t) => ((t, 0), rsPutT (rsMk l n) (rsAt n l) t)
    | some (.drop n) => if rsTxt l n = emp then ((emp, 5), rsMk l n) else ((rsTxt l n, 0), rsPutT (rsMk l n) (rsAt n l) emp)
    | some (.add n m) => ((itoaB (rsSum l n + m), 0), rsPutS (rsMk l n) (rsAt n l) (rsSum l n + m))
    | _ => ((emp, 100), l)) := Lib.hid rfl
  obtain ⟨r, hr⟩ : ∃ r, r = deedV l line := ⟨_, rfl⟩
  rw [← hr] at HVX ⊢
  clear hr
  cases hq : isLineB line with
  | false =>
    have HV : Hid (r = ((emp, 100), l)) := Lib.hid (by rw [HVX.out, HD.out, if_pos (.inl hq)])
    go_enter Tryz.func60, Tryz.ntmps60
    go_wp2_with fail
    refine (HDC.out.c1 _).mono ?_
    rintro e w1 ⟨rfl, hb1⟩
    go_wp2_with fail
    refine (HDC.out.c2 _).mono ?_
    rintro e w2 ⟨rfl, hb2⟩
    have HB2 := Lib.hid (below_trans hb1 hb2)
    have HS2 := Lib.hid (HS.out.below HB2.out)
    have HBS : Hid (TS S B w w2) := Lib.hid (TS.of_below HB2.out)
    clear hb1 hb2
    go_wp2_with fail
    refine (rline_any line w2 (by omega)).mono ?_
    rintro e w3 ⟨rfl, rfl⟩
    rw [hq]
    go_wp2
    go_ret2
    exact ⟨by rw [HV.out]; rfl, by rw [HV.out]; exact HS2.out, HBS.out⟩
  | true =>
    cases hn : isNameB N with
    | false =>
      have HV : Hid (r = ((emp, 100), l)) := Lib.hid (by rw [HVX.out, HD.out, if_pos (.inr hn)])
      go_enter Tryz.func60, Tryz.ntmps60
      go_wp2_with fail
      refine (HDC.out.c1 _).mono ?_
      rintro e w1 ⟨rfl, hb1⟩
      go_wp2_with fail
      refine (HDC.out.c2 _).mono ?_
      rintro e w2 ⟨rfl, hb2⟩
      have HB2 := Lib.hid (below_trans hb1 hb2)
      have HS2 := Lib.hid (HS.out.below HB2.out)
      have HBS : Hid (TS S B w w2) := Lib.hid (TS.of_below HB2.out)
      clear hb1 hb2
      go_wp2_with fail
      refine (rline_any line w2 (by omega)).mono ?_
      rintro e w3 ⟨rfl, rfl⟩
      rw [hq]
      go_wp2_with fail
      refine (risName_any N w2 (by omega)).mono ?_
      rintro e w3 ⟨rfl, rfl⟩
      rw [hn]
      go_wp2
      go_ret2
      exact ⟨by rw [HV.out]; rfl, by rw [HV.out]; exact HS2.out, HBS.out⟩
    | true =>
      have HD2 : Hid (deedR line = if V = putW then (if A = emp then none else some (.put N A))
        else if V = dropW then (if more then none else some (.drop N))
        else if V = addW then (match numR A.data.toList with
          | some n => some (.add N n)
          | none => none)
        else none) := Lib.hid (by rw [HD.out, if_neg (by rw [hq, hn]; decide)])
      clear HD
      by_cases h1 : V = putW
      · subst h1
        have HD3 : Hid (deedR line = if A = emp then none else some (.put N A)) := Lib.hid (by rw [HD2.out, if_pos rfl])
        clear HD2
        by_cases hA : A = emp
        · have HV : Hid (r = ((emp, 100), l)) := Lib.hid (by rw [HVX.out, HD3.out, if_pos hA])
          subst hA
          have k1 := put_is
          have k2 := emp_is
          go_enter Tryz.func60, Tryz.ntmps60
          go_wp2_with fail
          refine (HDC.out.c1 _).mono ?_
          rintro e w1 ⟨rfl, hb1⟩
          go_wp2_with fail
          refine (HDC.out.c2 _).mono ?_
          rintro e w2 ⟨rfl, hb2⟩
          have HB2 := Lib.hid (below_trans hb1 hb2)
          have HS2 := Lib.hid (HS.out.below HB2.out)
          have HBS : Hid (TS S B w w2) := Lib.hid (TS.of_below HB2.out)
          clear hb1 hb2
          go_wp2_with fail
          refine (rline_any line w2 (by omega)).mono ?_
          rintro e w3 ⟨rfl, rfl⟩
          rw [hq]
          go_wp2_with fail
          refine (risName_any N w2 (by omega)).mono ?_
          rintro e w3 ⟨rfl, rfl⟩
          rw [hn]
          go_wp2
          go_ret2
          exact ⟨by rw [HV.out]; rfl, by rw [HV.out]; exact HS2.out, HBS.out⟩
        · have HV : Hid (r = ((A, 0), rsPutT (rsMk l N) (rsAt N l) A)) := Lib.hid (by rw [HVX.out, HD3.out, if_neg hA])
          have hAe : (A.toList == ([] : List UInt8)) = false := ne_word (l := []) hA
          clear hA HVX HD3
          have k1 := put_is
          go_enter Tryz.func60, Tryz.ntmps60
          go_wp2_with fail
          refine (HDC.out.c1 _).mono ?_
          rintro e w1 ⟨rfl, hb1⟩
          go_wp2_with fail
          refine (HDC.out.c2 _).mono ?_
          rintro e w2 ⟨rfl, hb2⟩
          have HB2 := Lib.hid (below_trans hb1 hb2)
          have HS2 := Lib.hid (HS.out.below HB2.out)
          have HBS : Hid (TS S B w w2) := Lib.hid (TS.of_below HB2.out)
          clear hb1 hb2
          go_wp2_with fail
          refine (rline_any line w2 (by omega)).mono ?_
          rintro e w3 ⟨rfl, rfl⟩
          rw [hq]
          go_wp2_with fail
          refine (risName_any N w2 (by omega)).mono ?_
          rintro e w3 ⟨rfl, rfl⟩
          rw [hn]
          go_wp2_with fail
          refine (rat_name S B l N w2 HS2.out (by omega)).mono ?_
          rintro e w3 ⟨g2, k2, g3, k3, len, u, rfl, hna, hb3⟩
          have HNA := Lib.hid hna
          have HB3 := Lib.hid (HBS.out.trans hb3)
          obtain ⟨d0, d1, d2, dz⟩ := hna.says.cell
          have hilt := hna.lt
          have htx := hna.text
          have hsm := hna.sum
          have fft := hna.ft
          have ffs := hna.fs
          rw [rsTxt_mk] at htx
          rw [rsSum_mk] at hsm
          clear hna hb3
          have hil : ((rsAt N l : Nat) : Int) < (len : Int) := by omega
          have HP := Lib.hid (HNA.out.putT A)
          generalize rsAt N l = i at *
          go_wp2
          go_ret2
          exact ⟨by rw [HV.out]; rfl, by rw [HV.out]; exact HP.out.1, HB3.out.trans HP.out.2⟩
      · have n1 : (V.toList == ([112, 117, 116] : List UInt8)) = false := ne_word h1
        have HD3 : Hid (deedR line = if V = dropW then (if more then none else some (.drop N))
          else if V = addW then (match numR A.data.toList with
            | some n => some (.add N n)
            | none => none)
          else none) := Lib.hid (by rw [HD2.out, if_neg h1])
        clear HD2 h1
        by_cases h2 : V = dropW
        · subst h2
          have k1 := drop_put
          have k2 := drop_is
          have HD4 : Hid (deedR line = if more then none else some (.drop N)) := Lib.hid (by rw [HD3.out, if_pos rfl])
          clear HD3 n1
          cases more with
          | true =>
            have HV : Hid (r = ((emp, 100), l)) := Lib.hid (by rw [HVX.out, HD4.out, if_pos rfl])
            clear HVX HD4
            go_enter Tryz.func60, Tryz.ntmps60
            go_wp2_with fail
            refine (HDC.out.c1 _).mono ?_
            rintro e w1 ⟨rfl, hb1⟩
            go_wp2_with fail
            refine (HDC.out.c2 _).mono ?_
            rintro e w2 ⟨rfl, hb2⟩
            have HB2 := Lib.hid (below_trans hb1 hb2)
            have HS2 := Lib.hid (HS.out.below HB2.out)
            have HBS : Hid (TS S B w w2) := Lib.hid (TS.of_below HB2.out)
            clear hb1 hb2
            go_wp2_with fail
            refine (rline_any line w2 (by omega)).mono ?_
            rintro e w3 ⟨rfl, rfl⟩
            rw [hq]
            go_wp2_with fail
            refine (risName_any N w2 (by omega)).mono ?_
            rintro e w3 ⟨rfl, rfl⟩
            rw [hn]
            go_wp2
            go_ret2
            exact ⟨by rw [HV.out]; rfl, by rw [HV.out]; exact HS2.out, HBS.out⟩
          | false =>
            have HV0 : Hid (r = if rsTxt l N = emp then ((emp, 5), rsMk l N) else ((rsTxt l N, 0), rsPutT (rsMk l N) (rsAt N l) emp)) := Lib.hid (by rw [HVX.out, HD4.out]; rfl)
            clear HVX HD4
            by_cases ht : rsTxt l N = emp
            · have HV : Hid (r = ((emp, 5), rsMk l N)) := Lib.hid (by rw [HV0.out, if_pos ht])
              have HT := Lib.hid ht
              clear ht HV0
              have k3 := emp_is
              go_enter Tryz.func60, Tryz.ntmps60
              go_wp2_with fail
              refine (HDC.out.c1 _).mono ?_
              rintro e w1 ⟨rfl, hb1⟩
              go_wp2_with fail
              refine (HDC.out.c2 _).mono ?_
              rintro e w2 ⟨rfl, hb2⟩
              have HB2 := Lib.hid (below_trans hb1 hb2)
              have HS2 := Lib.hid (HS.out.below HB2.out)
              have HBS : Hid (TS S B w w2) := Lib.hid (TS.of_below HB2.out)
              clear hb1 hb2
              go_wp2_with fail
              refine (rline_any line w2 (by omega)).mono ?_
              rintro e w3 ⟨rfl, rfl⟩
              rw [hq]
              go_wp2_with fail
              refine (risName_any N w2 (by omega)).mono ?_
              rintro e w3 ⟨rfl, rfl⟩
              rw [hn]
              go_wp2_with fail
              refine (rat_name S B l N w2 HS2.out (by omega)).mono ?_
              rintro e w3 ⟨g2, k2, g3, k3, len, u, rfl, hna, hb3⟩
              have HNA := Lib.hid hna
              have HB3 := Lib.hid (HBS.out.trans hb3)
              obtain ⟨d0, d1, d2, dz⟩ := hna.says.cell
              have hilt := hna.lt
              have htx := hna.text
              have hsm := hna.sum
              have fft := hna.ft
              have ffs := hna.fs
              rw [rsTxt_mk] at htx
              rw [rsSum_mk] at hsm
              clear hna hb3
              rw [HT.out] at htx
              have hil : ((rsAt N l : Nat) : Int) < (len : Int) := by omega
              generalize rsAt N l = i at *
              go_wp2
              go_ret2
              exact ⟨by rw [HV.out]; rfl, by rw [HV.out]; exact ⟨_, _, _, HNA.out.says⟩, HB3.out⟩
            · have HV : Hid (r = ((rsTxt l N, 0), rsPutT (rsMk l N) (rsAt N l) emp)) := Lib.hid (by rw [HV0.out, if_neg ht])
              have k3 : ((rsTxt l N).toList == ([] : List UInt8)) = false := ne_word (l := []) ht
              clear ht HV0
              go_enter Tryz.func60, Tryz.ntmps60
              go_wp2_with fail
              refine (HDC.out.c1 _).mono ?_
              rintro e w1 ⟨rfl, hb1⟩
              go_wp2_with fail
              refine (HDC.out.c2 _).mono ?_
              rintro e w2 ⟨rfl, hb2⟩
              have HB2 := Lib.hid (below_trans hb1 hb2)
              have HS2 := Lib.hid (HS.out.below HB2.out)
              have HBS : Hid (TS S B w w2) := Lib.hid (TS.of_below HB2.out)
              clear hb1 hb2
              go_wp2_with fail
              refine (rline_any line w2 (by omega)).mono ?_
              rintro e w3 ⟨rfl, rfl⟩
              rw [hq]
              go_wp2_with fail
              refine (risName_any N w2 (by omega)).mono ?_
              rintro e w3 ⟨rfl, rfl⟩
              rw [hn]
              go_wp2_with fail
              refine (rat_name S B l N w2 HS2.out (by omega)).mono ?_
              rintro e w3 ⟨g2, k2, g3, k3, len, u, rfl, hna, hb3⟩
              have HNA := Lib.hid hna
              have HB3 := Lib.hid (HBS.out.trans hb3)
              obtain ⟨d0, d1, d2, dz⟩ := hna.says.cell
              have hilt := hna.lt
              have htx := hna.text
              have hsm := hna.sum
              have fft := hna.ft
              have ffs := hna.fs
              rw [rsTxt_mk] at htx
              rw [rsSum_mk] at hsm
              clear hna hb3
              have hil : ((rsAt N l : Nat) : Int) < (len : Int) := by omega
              have HP := Lib.hid (HNA.out.putT emp)
              generalize rsAt N l = i at *
              generalize rsTxt l N = tx at *
              go_wp2
              go_ret2
              exact ⟨by rw [HV.out]; rfl, by rw [HV.out]; exact HP.out.1, HB3.out.trans HP.out.2⟩
        · have n2 : (V.toList == ([100, 114, 111, 112] : List UInt8)) = false := ne_word h2
          by_cases h3 : V = addW
          · subst h3
            have k3 := add_is
            have HD4 : Hid (deedR line = match numR A.data.toList with
              | some n => some (.add N n)
              | none => none) := Lib.hid (by rw [HD3.out, if_neg h2, if_pos rfl])
            have HNU := Lib.hid (fun W => rnum_any A W (by omega))
            have HBD := Lib.hid (hsum N)
            clear HD3 h2
            cases hm : numR A.data.toList with
            | none =>
              rw [hm] at HD4 HNU
              have HNU2 : Hid (∀ W, Calls Tryz.prog 77 #[.string A] W fun e w' => e = .returned (.tuple #[.int .i64 0, .bool false]) ∧ W = w') := Lib.hid HNU.out
              have HV : Hid (r = ((emp, 100), l)) := Lib.hid (by rw [HVX.out, HD4.out])
              clear HVX HD4 hm HNU
              go_enter Tryz.func60, Tryz.ntmps60
              go_wp2_with fail
              refine (HDC.out.c1 _).mono ?_
              rintro e w1 ⟨rfl, hb1⟩
              go_wp2_with fail
              refine (HDC.out.c2 _).mono ?_
              rintro e w2 ⟨rfl, hb2⟩
              have HB2 := Lib.hid (below_trans hb1 hb2)
              have HS2 := Lib.hid (HS.out.below HB2.out)
              have HBS : Hid (TS S B w w2) := Lib.hid (TS.of_below HB2.out)
              clear hb1 hb2
              go_wp2_with fail
              refine (rline_any line w2 (by omega)).mono ?_
              rintro e w3 ⟨rfl, rfl⟩
              rw [hq]
              go_wp2_with fail
              refine (risName_any N w2 (by omega)).mono ?_
              rintro e w3 ⟨rfl, rfl⟩
              rw [hn]
              go_wp2_with fail
              refine (HNU2.out _).mono ?_
              rintro e w3 ⟨rfl, rfl⟩
              go_wp2
              go_ret2
              exact ⟨by rw [HV.out]; rfl, by rw [HV.out]; exact HS2.out, HBS.out⟩
            | some m =>
              obtain ⟨_, hm0, hm1⟩ := numR_some hm
              rw [hm] at HD4 HNU
              have HNU2 : Hid (∀ W, Calls Tryz.prog 77 #[.string A] W fun e w' => e = .returned (.tuple #[.int .i64 m, .bool true]) ∧ W = w') := Lib.hid HNU.out
              have HV : Hid (r = ((itoaB (rsSum l N + m), 0), rsPutS (rsMk l N) (rsAt N l) (rsSum l N + m))) := Lib.hid (by rw [HVX.out, HD4.out])
              clear HVX HD4 hm HNU
              go_enter Tryz.func60, Tryz.ntmps60
              go_wp2_with fail
              refine (HDC.out.c1 _).mono ?_
              rintro e w1 ⟨rfl, hb1⟩
              go_wp2_with fail
              refine (HDC.out.c2 _).mono ?_
              rintro e w2 ⟨rfl, hb2⟩
              have HB2 := Lib.hid (below_trans hb1 hb2)
              have HS2 := Lib.hid (HS.out.below HB2.out)
              have HBS : Hid (TS S B w w2) := Lib.hid (TS.of_below HB2.out)
              clear hb1 hb2
              go_wp2_with fail
              refine (rline_any line w2 (by omega)).mono ?_
              rintro e w3 ⟨rfl, rfl⟩
              rw [hq]
              go_wp2_with fail
              refine (risName_any N w2 (by omega)).mono ?_
              rintro e w3 ⟨rfl, rfl⟩
              rw [hn]
              go_wp2_with fail
              refine (HNU2.out _).mono ?_
              rintro e w3 ⟨rfl, rfl⟩
              go_wp2_with fail
              refine (rat_name S B l N w2 HS2.out (by omega)).mono ?_
              rintro e w3 ⟨g2, k2, g3, k3, len, u, rfl, hna, hb3⟩
              have HNA := Lib.hid hna
              have HB3 := Lib.hid (HBS.out.trans hb3)
              obtain ⟨d0, d1, d2, dz⟩ := hna.says.cell
              have hilt := hna.lt
              have htx := hna.text
              have hsm := hna.sum
              have fft := hna.ft
              have ffs := hna.fs
              rw [rsTxt_mk] at htx
              rw [rsSum_mk] at hsm
              clear hna hb3
              have hil : ((rsAt N l : Nat) : Int) < (len : Int) := by omega
              have HP := Lib.hid ((HNA.out.below (Below.refl _ _).drew).putS (rsSum l N + m))
              have hb1 := HBD.out.1
              have hb2 := HBD.out.2
              generalize rsAt N l = i at *
              generalize rsSum l N = sm at *
              have hw1 : IntKind.i64.wrap (sm + m) = sm + m := IntWalk.i64_in _ (by omega)
              have HDM := Lib.hid (fun W => rdecimal_any (sm + m) W (by omega) (by omega))
              have hgt := (own_high HNA.out.says.sums (k := g3) rfl).1
              have hlow := HNA.out.says.low
              have hne1 : ¬ S = g3 := by omega
              have hne2 : ¬ g3 = S := by omega
              clear hsum hgt hlow
              go_wp2
              go_region_law (fail)
              all_goals
                go_wp2_with fail
                refine (HDM.out _).mono ?_
                rintro e w4 ⟨rfl, hb4⟩
                go_wp2
                go_ret2
                have hz : Below w3.heap.size w3 w3.drew := (Below.refl _ _).drew
                refine ⟨by rw [HV.out]; rfl, by rw [HV.out]; exact HP.out.1.below hb4, (HB3.out.trans ((TS.of_below hz).trans HP.out.2)).trans (TS.of_below hb4)⟩
          · have n3 : (V.toList == ([97, 100, 100] : List UInt8)) = false := ne_word h3
            have HV : Hid (r = ((emp, 100), l)) := Lib.hid (by rw [HVX.out, HD3.out, if_neg h2, if_neg h3])
            clear HVX HD3 h2 h3
            go_enter Tryz.func60, Tryz.ntmps60
            go_wp2_with fail
            refine (HDC.out.c1 _).mono ?_
            rintro e w1 ⟨rfl, hb1⟩
            go_wp2_with fail
            refine (HDC.out.c2 _).mono ?_
            rintro e w2 ⟨rfl, hb2⟩
            have HB2 := Lib.hid (below_trans hb1 hb2)
            have HS2 := Lib.hid (HS.out.below HB2.out)
            have HBS : Hid (TS S B w w2) := Lib.hid (TS.of_below HB2.out)
            clear hb1 hb2
            go_wp2_with fail
            refine (rline_any line w2 (by omega)).mono ?_
            rintro e w3 ⟨rfl, rfl⟩
            rw [hq]
            go_wp2_with fail
            refine (risName_any N w2 (by omega)).mono ?_
            rintro e w3 ⟨rfl, rfl⟩
            rw [hn]
            go_wp2
            go_ret2
            exact ⟨by rw [HV.out]; rfl, by rw [HV.out]; exact HS2.out, HBS.out⟩
end Go.Proofs.YtdfkaijeppdhaaaGreatDoor

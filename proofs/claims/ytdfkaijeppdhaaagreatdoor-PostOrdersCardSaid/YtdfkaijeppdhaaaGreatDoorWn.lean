/- Contracts: written, copies (the laws' own). -/
import Derived.Test.YtdfkaijeppdhaaaGreatDoorLb
namespace Go.Proofs.YtdfkaijeppdhaaaGreatDoor
open Go.RowKit Go.Shelf

theorem ptr_notT : ¬ isPostT 33 := by unfold isPostT; decide
def ptrsP (P : Nat → Nat) (k : Nat) : List Value := (List.range k).map fun j => .pointer (some ⟨P j, 0, none⟩)
theorem ptrsP_len (P : Nat → Nat) (k : Nat) : (ptrsP P k).length = k := by simp [ptrsP]
theorem ptrsP_snoc (P : Nat → Nat) (k p : Nat) : ptrsP (upN P k p) (k + 1) = ptrsP P k ++ [.pointer (some ⟨p, 0, none⟩)] := by
  unfold ptrsP
  rw [List.range_succ, List.map_append, List.map_singleton, upN_same]
  congr 1
  refine List.map_congr_left fun j hj => ?_
  rw [upN_other _ _ (by have := List.mem_range.1 hj; omega)]
theorem ptrsP_at (P : Nat → Nat) {k j : Nat} (h : j < k) : (ptrsP P k)[j]? = some (.pointer (some ⟨P j, 0, none⟩)) := by
  unfold ptrsP
  rw [List.getElem?_map, List.getElem?_range h]; rfl
/-- A row of pointers, grown by one; the posts stay. -/
theorem PsAt.appended {base : Nat} {w1 w2 : World} {m k : Nat} {P n : Nat → Nat} {b : Nat → Book} {o : Value} {ob : Obj} {base' : Nat} {xs : List Value} (h : PsAt base w1 m P n b) (hr : (w1.alloc ob).ownsRow base' 33 1 o k xs) (hv : ∀ k, isVar k → k < base')
    (hg : (w1.alloc ob).grownBy w2 o.ownBlock) : PsAt base w2 m P n b :=
  (h.below ((Below.refl _ w1).alloc (Nat.le_refl _) ob)).grown hr ptr_notT hv hg

/-! ### written -/
/-- What holds in the first loop. -/
structure WrI (w : World) (k : Nat) (o : Value) (P : Nat → Nat) (wr : World) : Prop where
  row : wr.ownsRow w.heap.size 33 1 o k (ptrsP P k)
  ps : PsAt w.heap.size wr k P (fun j => j) (fun _ => empB)
  below : Below w.heap.size w wr
/-- What holds in the second loop. -/
structure WrJ (w : World) (o : Value) (P : Nat → Nat) (bs : Nat → Book) (wr : World) : Prop where
  row : wr.ownsRow w.heap.size 33 1 o 3 (ptrsP P 3)
  ps : PsAt w.heap.size wr 3 P (fun j => j) bs
  sys : Sys bs
  below : Below w.heap.size w wr
def WrittenPost (w : World) (e : Ending) (w' : World) : Prop := ∃ g c P bs, e = .returned (.slice (some ⟨g, 0, none⟩) 3 c) ∧ WrJ w (.slice (some ⟨g, 0, none⟩) 3 c) P bs w'
theorem WrI.next {w wr w1 w2 : World} {k p : Nat} {o v' : Value} {P : Nat → Nat} {ob : Obj} (h : WrI w k o P wr) (hV : ∀ j, isVar j → j < w.heap.size) (h1 : NewPs w.heap.size k P (fun j => j) (fun _ => empB) k empB wr w1 p)
    (hrow : w2.ownsRow w.heap.size 33 1 v' (k + 1) (ptrsP P k ++ [.pointer (some ⟨p, 0, none⟩)])) (hg : (w1.alloc ob).grownBy w2 o.ownBlock) : WrI w (k + 1) v' (upN P k p) w2 := by
  have hsz := h.below.size
  have hr1 := h1.2.own h.row ptr_notT
  have hb1 := h.below.trans (h1.2.below hsz)
  refine ⟨by rw [ptrsP_snoc]; exact hrow, ?_, below_append hb1 hb1.size hr1 (Nat.le_refl _) hg⟩
  refine (PsAt.appended h1.1 (hr1.alloc ob) hV hg).congr fun i hi => ⟨rfl, ?_, ?_⟩
  · unfold upN; split <;> simp [*]
  · unfold upN; split <;> rfl
theorem setP_up (bs : Nat → Book) (j : Nat) (c : Book) : setP bs j c = upN bs j c := rfl
theorem WrJ.row_at {w wr : World} {g c : Nat} {P : Nat → Nat} {bs : Nat → Book} (h : WrJ w (.slice (some ⟨g, 0, none⟩) 3 c) P bs wr) {j : Nat} (hj : j < 3) : wr.cell? ⟨g, j, none⟩ = some (.pointer (some ⟨P j, 0, none⟩)) := by
  have := h.row.cellAt j (by omega)
  rw [this, ptrsP_at P hj]
theorem WrJ.join {w wr w1 : World} {o : Value} {P : Nat → Nat} {bs : Nat → Book} (h : WrJ w o P bs wr) {i j : Nat} (hi : i < 3) (hj : j < 3) {e : Ending} (hx : JoinPs w.heap.size 3 P (fun j => j) bs i (joinV (bs i) (bs j)) wr e w1) : e = .returned (.int .i64 0) ∧ WrJ w o P (upN bs i (joinL (bs i) (bs j))) w1 := by
  have hju := (join_under (h.sys.under hi) (h.sys.under hj)).1
  have hv : joinV (bs i) (bs j) = (0, joinL (bs i) (bs j)) := by unfold joinV; rw [hju]
  rw [hv] at hx
  obtain ⟨h1, h2, h3⟩ := hx
  exact ⟨h1, h3.own h.row ptr_notT, h2, h.sys.join hi hj, h.below.trans (h3.below h.below.size)⟩
theorem WrJ.add {w wr w1 : World} {o : Value} {P : Nat → Nat} {bs : Nat → Book} (h : WrJ w o P bs wr) {i : Nat} (hi : i < 3) {line : ByteArray} {e : Ending} (hx : DoPs w.heap.size 3 P (fun j => j) bs i (doB (bs i) i line) wr e w1) : WrJ w o P (upN bs i (doB (bs i) i line).2.2) w1 := by
  obtain ⟨h1, h2, h3⟩ := hx
  exact ⟨h3.own h.row ptr_notT, h2, h.sys.add hi line, h.below.trans (h3.below h.below.size)⟩
set_option maxRecDepth 100000 in
set_option maxHeartbeats 8000000 in
theorem written_any (v : Value) (lines : List ByteArray) (n : Int) (w : World) (hL : StrsW w v lines) (hsz : ∀ s ∈ lines, s.size ≤ 200) (hlen : lines.length ≤ 30) (hV : Vars w) :
    Calls Tryz.prog 20 #[v, .int .u32 n] w (WrittenPost w) := by
  obtain ⟨i0, hi0, hz0, hz1, hz2⟩ := info_parts Tryz.infoPtr
  have HVL := Lib.hid (fun j hj => hV.lt (k := j) hj)
  have HSZ := Lib.hid (fun k (hk : k < lines.length) => show (lines.getD k emp).size ≤ 200 by
    rw [List.getD_eq_getElem?_getD, List.getElem?_eq_getElem hk]; exact hsz _ (List.getElem_mem hk))
  obtain ⟨la, lc, rfl, hc⟩ := hL
  have HLC := Lib.hid hc
  have HI0 : Hid (WrI w 0 (.slice none 0 0) (fun _ => 0) w) := Lib.hid ⟨World.ownsRow_nil _ _ _ _, PsAt.nil hV _ _ _, Below.refl _ _⟩
  obtain ⟨ln, hln⟩ : ∃ ln, ln = lines.length := ⟨_, rfl⟩
  have HN := Lib.hid hln
  rw [← hln] at hlen ⊢
  clear hc hsz hV hln
  go_enter Tryz.func20, Tryz.ntmps20
  go_wp2
  go_loopw [5, 6] (fun o i wr => ∃ (k : Nat) (P : Nat → Nat), k ≤ 3 ∧ i = .int .i64 k ∧ Hid (WrI w k o P wr)) (fun _ i _ => 3 - (intOf i).toNat)
  case atStart => exact ⟨0, _, by omega, rfl, HI0⟩
  case round =>
    obtain ⟨k, P, hk, rfl, HI⟩ := hrel
    obtain ⟨oa, oc, rfl⟩ := own_shape HI.out.row
    by_cases hlt : k < 3
    · have hlt2 : (k : Int) < 3 := by omega
      have hszr := HI.out.below.size
      go_wp2_with fail
      refine (new_ps HI.out.ps k (by omega)).mono ?_
      rintro e w1 ⟨p, rfl, hA⟩
      have HA := Lib.hid hA
      have HO1 := Lib.hid (hA.2.own HI.out.row ptr_notT)
      have hsz2 : w.heap.size ≤ w1.heap.size := Nat.le_trans hszr hA.2.size
      clear hA
      go_wp2_with (at_builtin; refine wpList_append_own _ rfl _ _ 31 rfl w.heap.size 33 i0 (.pointer none) 1 8 Tryz.underlying31 hi0 hz0 hz1 hz2 rfl (by decide) _ _ _ rfl (HO1.out.alloc _) ⟨w1.heap.size, 0, none⟩ 1 1 [.pointer (some ⟨p, 0, none⟩)] rfl rfl ?c1 ?c2 ?c3 ?c4 ?c5 ?_)
      case c1 => exact (cell_one_new _ _ _)
      case c2 => intro u hu; simp at hu; subst hu; rfl
      case c3 => unfold maxLen; omega
      case c4 => omega
      case c5 => simp; omega
      · intro v' w2 hown' hgrow _
        have HM := Lib.hid (HI.out.next HVL.out HA.out hown' hgrow)
        clear hown' hgrow
        go_wp2
        go_roundw
        case rel => exact ⟨k + 1, _, by omega, by go_num, HM⟩
        case measure => simp [intOf]; omega
    · have e : k = 3 := by omega
      subst e
      rw [show ((3 : Nat) : Int) = 3 from rfl]
      obtain ⟨S, cap, cur, hos, _, _, _⟩ := HI.out.row.2.resolve_left (fun h => by simp at h)
      simp only [Value.slice.injEq] at hos
      obtain ⟨rfl, -, rfl⟩ := hos
      have HJ0 : Hid (WrJ w (.slice (some ⟨S, 0, none⟩) 3 oc) P (fun _ => empB) wr) := Lib.hid ⟨HI.out.row, HI.out.ps, sys_new, HI.out.below⟩
      clear HI
      go_wp2
      obtain ⟨wo, hwo⟩ : ∃ wo, wo = wr := ⟨_, rfl⟩
      subst hwo
      go_loopw [9] (fun i wr => ∃ (k : Nat) (bs : Nat → Book), k ≤ ln ∧ i = .int .i64 k ∧ Hid (WrJ w (.slice (some ⟨S, 0, none⟩) 3 oc) P bs wr)) (fun i _ => ln - (intOf i).toNat)
      case atStart => exact ⟨0, _, Nat.zero_le _, rfl, HJ0⟩
      case round =>
        obtain ⟨k, bs, hk, rfl, HJ⟩ := hrel
        by_cases hlt : k < ln
        · obtain ⟨b, off, rfl, hcc⟩ := HLC.out (by rw [← HN.out]; omega)
          have c1 := keep_cell HJ.out.below (hcc k (by rw [← HN.out]; exact hlt))
          have HC0 := Lib.hid (hcc k (by rw [← HN.out]; exact hlt))
          have hxs := HSZ.out k (by rw [← HN.out]; exact hlt)
          generalize lines.getD k emp = x at *
          have hj1 : k % 3 < 3 := Nat.mod_lt _ (by omega)
          have hj2 : (k + 1) % 3 < 3 := Nat.mod_lt _ (by omega)
          have d1 := HJ.out.row_at hj1
          have d2 := HJ.out.row_at hj2
          have m1 : (k : Int).tmod 3 = ((k % 3 : Nat) : Int) := by rw [Int.tmod_eq_emod_of_nonneg (by omega)]; omega
          have m2 : ((k : Int) + 1).tmod 3 = (((k + 1) % 3 : Nat) : Int) := by rw [Int.tmod_eq_emod_of_nonneg (by omega)]; omega
          have i1 : ((k % 3 : Nat) : Int) < 3 := by omega
          have i2 : (((k + 1) % 3 : Nat) : Int) < 3 := by omega
          clear hcc
          generalize k % 3 = j1 at *
          generalize (k + 1) % 3 = j2 at *
          have hk32 : (k : Int) < 32 := by omega
          cases hbit : (Go.bits BinOp.and IntKind.u32 (n / 2 ^ k) 1 == 1) with
          | true =>
            go_wp2_with fail
            refine (join_ps HJ.out.ps hj1 hj2).mono ?_
            rintro e w1 hJP
            obtain ⟨rfl, hJ2⟩ := HJ.out.join hj1 hj2 hJP
            have HJ2 := Lib.hid hJ2
            have c2 := keep_cell hJ2.below HC0.out
            clear hJP hJ2
            go_wp2_with fail
            refine (do_ps HJ2.out.ps hj1 x (by omega)).mono ?_
            rintro e w2 hDP
            have HJ3 := Lib.hid (HJ2.out.add hj1 hDP)
            obtain ⟨rfl, _, _⟩ := hDP
            go_wp2
            go_roundw
            case rel => exact ⟨k + 1, _, by omega, by go_num, HJ3⟩
            case measure => simp [intOf]; omega
          | false =>
            go_wp2_with fail
            refine (do_ps HJ.out.ps hj1 x (by omega)).mono ?_
            rintro e w2 hDP
            have HJ3 := Lib.hid (HJ.out.add hj1 hDP)
            obtain ⟨rfl, _, _⟩ := hDP
            go_wp2
            go_roundw
            case rel => exact ⟨k + 1, _, by omega, by go_num, HJ3⟩
            case measure => simp [intOf]; omega
        · have e : k = ln := by omega
          go_wp2
          go_ret
          exact ⟨S, oc, P, bs, rfl, HJ.out⟩

/-! ### copies -/
/-- The first k copies of posts. -/
def copL (l : List PB) (Q : Nat → Nat) : Nat → List PB
  | 0 => []
  | k + 1 => copL l Q k ++ [(Q k, (atL l k).2.1, (atL l k).2.2)]
theorem copL_congr (l : List PB) {Q Q' : Nat → Nat} : ∀ k, (∀ i, i < k → Q i = Q' i) → copL l Q k = copL l Q' k
  | 0, _ => rfl
  | k + 1, h => by rw [copL, copL, copL_congr l k (fun i hi => h i (by omega)), h k (by omega)]
theorem PsL.appended {base : Nat} {w1 w2 : World} {l : List PB} {k : Nat} {o : Value} {ob : Obj} {base' : Nat} {xs : List Value} (h : PsL base w1 l) (hr : (w1.alloc ob).ownsRow base' 33 1 o k xs) (hv : ∀ k, isVar k → k < base')
    (hg : (w1.alloc ob).grownBy w2 o.ownBlock) : PsL base w2 l := PsAt.appended h hr hv hg
theorem PsL.var_lt {base : Nat} {w : World} {l : List PB} (h : PsL base w l) {k : Nat} (hk : isVar k) : k < w.heap.size := by
  obtain ⟨F, h1, _⟩ := h
  exact h1.vars.lt hk
/-- What holds in the loop. -/
structure CpI (base : Nat) (w : World) (l : List PB) (k : Nat) (o : Value) (Q : Nat → Nat) (wr : World) : Prop where
  row : wr.ownsRow w.heap.size 33 1 o k (ptrsP Q k)
  ps : PsL base wr (l ++ copL l Q k)
  below : Below w.heap.size w wr
def CopiesPost (base : Nat) (l : List PB) (w : World) (e : Ending) (w' : World) : Prop := ∃ g c Q, e = .returned (.slice (some ⟨g, 0, none⟩) 3 c) ∧ CpI base w l 3 (.slice (some ⟨g, 0, none⟩) 3 c) Q w'
theorem CpI.next {base : Nat} {w wr w1 w2 : World} {l : List PB} {k p : Nat} {o v' : Value} {Q : Nat → Nat} {ob : Obj} (h : CpI base w l k o Q wr) (hV : ∀ j, isVar j → j < w.heap.size)
    (h1 : PsL base w1 ((l ++ copL l Q k) ++ [(p, (atL l k).2.1, (atL l k).2.2)])) (hb : Below wr.heap.size wr w1)
    (hrow : w2.ownsRow w.heap.size 33 1 v' (k + 1) (ptrsP Q k ++ [.pointer (some ⟨p, 0, none⟩)])) (hg : (w1.alloc ob).grownBy w2 o.ownBlock) : CpI base w l (k + 1) v' (upN Q k p) w2 := by
  have hsz := h.below.size
  have hr1 := own_below h.row hb
  have hb1 := h.below.trans (hb.mono hsz)
  refine ⟨by rw [ptrsP_snoc]; exact hrow, ?_, below_append hb1 hb1.size hr1 (Nat.le_refl _) hg⟩
  have h2 := PsL.appended h1 (hr1.alloc ob) hV hg
  rw [List.append_assoc] at h2
  have e : copL l (upN Q k p) (k + 1) = copL l Q k ++ [(p, (atL l k).2.1, (atL l k).2.2)] := by
    rw [copL, upN_same, copL_congr l (Q' := Q) k (fun i hi => upN_other _ _ (by omega))]
  rw [e]
  exact h2
theorem CpI.row_at {base : Nat} {w wr : World} {l : List PB} {g c : Nat} {Q : Nat → Nat} (h : CpI base w l 3 (.slice (some ⟨g, 0, none⟩) 3 c) Q wr) {j : Nat} (hj : j < 3) : wr.cell? ⟨g, j, none⟩ = some (.pointer (some ⟨Q j, 0, none⟩)) := by
  have := h.row.cellAt j (by omega)
  rw [this, ptrsP_at Q hj]
/-- A copy, told by what it leaves below. -/
theorem copy_l2 {base : Nat} {w : World} {l : List PB} (h : PsL base w l) {i : Nat} (hi : i < l.length) :
    Calls Tryz.prog 35 #[.pointer (some ⟨(atL l i).1, 0, none⟩)] w fun e w' => ∃ P', e = .returned (.pointer (some ⟨P', 0, none⟩)) ∧ PsL base w' (l ++ [(P', (atL l i).2.1, (atL l i).2.2)]) ∧ Below w.heap.size w w' := by
  obtain ⟨F, h1, h2, h3, h4⟩ := id h
  refine (copy_post _ _ (F i) _ w (h1.post i hi) (h3 i hi).1).mono ?_
  rintro e w' ⟨P', F', rfl, k1, k2, k3⟩
  exact ⟨P', rfl, PsL.of_new (PsAt.grow h k1 k2 k3 (h3 i hi).1 (h3 i hi).2), k3⟩
theorem copL_len (l : List PB) (Q : Nat → Nat) : ∀ k, (copL l Q k).length = k
  | 0 => rfl
  | k + 1 => by rw [copL, List.length_append, copL_len l Q k]; rfl
set_option maxRecDepth 100000 in
set_option maxHeartbeats 8000000 in
theorem copies_any (base : Nat) (l : List PB) (g c : Nat) (w : World) (h : PsL base w l) (hl : 3 ≤ l.length) (hc : ∀ j, j < 3 → w.cell? ⟨g, j, none⟩ = some (.pointer (some ⟨(atL l j).1, 0, none⟩))) :
    Calls Tryz.prog 39 #[.slice (some ⟨g, 0, none⟩) 3 c] w (CopiesPost base l w) := by
  obtain ⟨i0, hi0, hz0, hz1, hz2⟩ := info_parts Tryz.infoPtr
  have HVL := Lib.hid (fun j hj => PsL.var_lt h (k := j) hj)
  have HC := Lib.hid hc
  have HI0 : Hid (CpI base w l 0 (.slice none 0 0) (fun _ => 0) w) := Lib.hid ⟨World.ownsRow_nil _ _ _ _, by rw [copL, List.append_nil]; exact h, Below.refl _ _⟩
  clear hc h
  go_enter Tryz.func39, Tryz.ntmps39
  go_wp2
  go_loopw [3, 4] (fun o i wr => ∃ (k : Nat) (Q : Nat → Nat), k ≤ 3 ∧ i = .int .i64 k ∧ Hid (CpI base w l k o Q wr)) (fun _ i _ => 3 - (intOf i).toNat)
  case atStart => exact ⟨0, _, by omega, rfl, HI0⟩
  case round =>
    obtain ⟨k, Q, hk, rfl, HI⟩ := hrel
    obtain ⟨oa, oc, rfl⟩ := own_shape HI.out.row
    by_cases hlt : k < 3
    · have hlt2 : (k : Int) < 3 := by omega
      have hk0 : (0 : Int) ≤ (k : Int) := by omega
      have hszr := HI.out.below.size
      have d0 := keep_cell HI.out.below (HC.out k hlt)
      have hat : atL (l ++ copL l Q k) k = atL l k := atL_append _ _ _ (by omega)
      have CC := Lib.hid (copy_l2 HI.out.ps (i := k) (by rw [List.length_append]; omega))
      rw [hat] at CC
      generalize hpk : (atL l k).1 = pk at *
      have HPK := Lib.hid hpk
      clear hpk hat
      go_wp2_with fail
      refine CC.out.mono ?_
      rintro e w1 ⟨p, rfl, hA, hb⟩
      have HA := Lib.hid hA
      have HB := Lib.hid hb
      have HO1 := Lib.hid (own_below HI.out.row hb)
      have hsz2 : w.heap.size ≤ w1.heap.size := Nat.le_trans hszr hb.size
      clear hA hb CC
      go_wp2_with (at_builtin; refine wpList_append_own _ rfl _ _ 31 rfl w.heap.size 33 i0 (.pointer none) 1 8 Tryz.underlying31 hi0 hz0 hz1 hz2 rfl (by decide) _ _ _ rfl (HO1.out.alloc _) ⟨w1.heap.size, 0, none⟩ 1 1 [.pointer (some ⟨p, 0, none⟩)] rfl rfl ?c1 ?c2 ?c3 ?c4 ?c5 ?_)
      case c1 => exact (cell_one_new _ _ _)
      case c2 => intro u hu; simp at hu; subst hu; rfl
      case c3 => unfold maxLen; omega
      case c4 => omega
      case c5 => simp; omega
      · intro v' w2 hown' hgrow _
        have HM := Lib.hid (HI.out.next HVL.out HA.out HB.out hown' hgrow)
        clear hown' hgrow
        go_wp2
        go_roundw
        case rel => exact ⟨k + 1, _, by omega, by go_num, HM⟩
        case measure => simp [intOf]; omega
    · have e : k = 3 := by omega
      subst e
      rw [show ((3 : Nat) : Int) = 3 from rfl]
      obtain ⟨S, cap, cur, hos, _, _, _⟩ := HI.out.row.2.resolve_left (fun h => by simp at h)
      simp only [Value.slice.injEq] at hos
      obtain ⟨rfl, -, rfl⟩ := hos
      go_wp2
      go_ret
      exact ⟨S, oc, Q, rfl, HI.out⟩
end Go.Proofs.YtdfkaijeppdhaaaGreatDoor
